/-
  LeaseBack, its walk.
-/
import Derived.Test.YtefllgpehhlkoaaLease11
import Derived.Test.YtefllgpehhlkoaaLeaseP
import Derived.Test.YtefllgpehhlkoaaEarlyW
namespace Go.Proofs.Ytefllgpehhlkoaa
open Go.RowKit Go.Maps
set_option linter.unusedVariables false

set_option maxRecDepth 100000 in
set_option maxHeartbeats 1000000 in
theorem back_bad (w : World) (epoch : Int) (al : Option Addr) (len cap : Nat) (z : Nat → Nat → Int) (now term place a b : Int) (hz : IsRecs w 4 al len cap z)
    (hab : (a == b) = false) (hb : epoch < 0 ∨ 1073741824 < epoch ∨ now < 0 ∨ 1073741824 < now ∨ a < 0 ∨ b < 0) :
    Calls Try.prog 9 #[.int .i64 epoch, .slice al len cap, .int .i64 now, .int .i64 term, .int .i64 place, .int .i64 a, .int .i64 b] w (TrueOnly w) := by
  have HZ := Lib.hid hz
  clear hz
  have HB := Lib.hid hb
  clear hb
  go_enter Try.func9, Try.ntmps9
  go_wp2_with (first
    | (go_at_call 31; refine (begin_any _ epoch 0 al len cap z HZ.out).mono ?_; rintro e W1 ⟨m, es, v, rfl, hm', hx', hl', hw', hr', hb', ho'⟩; obtain ⟨ra, rn, rc, rfl⟩ := own_val hx'; have ho := Lib.hid ((ho'.alloc (.cells #[.int .i64 epoch, .int .i64 0, .map (some m)] 57)).alloc (.cells #[.int .i64 epoch, .int .i64 0, .slice ra rn rc] 59)); clear hm' hx' hl' hw' hr' hb' ho'; unfold lval xval)
    | (go_at_call 32; refine (awake18 _).mono ?_; rintro e W2 ⟨rfl, ho2'⟩)
    | fail)
  all_goals first
    | (exfalso; have := HB.out; clear HB; omega)
    | (go_ret; exact ⟨rfl, ho.out.then ho2' ho.out.size⟩)

set_option maxRecDepth 100000 in
set_option maxHeartbeats 1000000 in
theorem back_eq (w : World) (epoch : Int) (al : Option Addr) (len cap : Nat) (z : Nat → Nat → Int) (now term place a b : Int) (hz : IsRecs w 4 al len cap z)
    (hab : (a == b) = true) :
    Calls Try.prog 9 #[.int .i64 epoch, .slice al len cap, .int .i64 now, .int .i64 term, .int .i64 place, .int .i64 a, .int .i64 b] w (TrueOnly w) := by
  have HZ := Lib.hid hz
  clear hz
  go_enter Try.func9, Try.ntmps9
  go_wp2_with (first
    | (go_at_call 31; refine (begin_any _ epoch 0 al len cap z HZ.out).mono ?_; rintro e W1 ⟨m, es, v, rfl, hm', hx', hl', hw', hr', hb', ho'⟩; obtain ⟨ra, rn, rc, rfl⟩ := own_val hx'; have ho := Lib.hid ((ho'.alloc (.cells #[.int .i64 epoch, .int .i64 0, .map (some m)] 57)).alloc (.cells #[.int .i64 epoch, .int .i64 0, .slice ra rn rc] 59)); clear hm' hx' hl' hw' hr' hb' ho'; unfold lval xval)
    | (go_at_call 32; refine (awake18 _).mono ?_; rintro e W2 ⟨rfl, ho2'⟩)
    | fail)
  all_goals first
    | (go_ret; exact ⟨rfl, ho.out.then ho2' ho.out.size⟩)

/-- the state at the start, in its variable -/
theorem begun_var {w W1 : World} {epoch : Int} {m : Nat} {es : Trips} {ra : Option Addr} {rn rc : Nat} (hm : MapAt tripE W1 m es) (ho : Only w.heap.size w.heap.size w W1) :
    LVar ((W1.alloc (.cells #[.int .i64 epoch, .int .i64 0, .map (some m)] 57)).alloc (.cells #[.int .i64 epoch, .int .i64 0, .slice ra rn rc] 59)) W1.heap.size ⟨epoch, 0, es⟩ (some m) :=
  (LVar.new (h := ⟨epoch, 0, es⟩) (m := some m) hm).kept ((Only.refl _ _ _).alloc _)

/-- what the first grant comes to -/
theorem back_three (epoch now term place a b : Int) (es : Trips) (h0 : 0 ≤ epoch) (h1 : epoch ≤ 1073741824) (h2 : 0 ≤ now) (h3 : now ≤ 1073741824) (h4 : 0 ≤ a) (h5 : 0 ≤ b) (h6 : ¬ a = b) (hr : Rising es) (hl : es.length ≤ 10) :
    (∃ c, (c = 1 ∨ c = 15) ∧ grantL ⟨epoch, 0, es⟩ now term place a = (⟨epoch, 0, es⟩, 0, c)) ∨ (grantL ⟨epoch, 0, es⟩ now term place a = (bkT epoch now term place a es, epoch + 1, 0) ∧ BkOk epoch now term place a b es) := by
  by_cases ht : term < 1 ∨ 1048576 < term
  · exact .inl ⟨1, .inl rfl, grantL_bad (by omega)⟩
  · by_cases hw : ∃ x, whoL es now place = some x ∧ ¬ x.1 = a
    · obtain ⟨x, h7, h8⟩ := hw
      exact .inl ⟨15, .inr rfl, grantL_busy' (by omega) (by show ¬ now < 0; omega) hr h7 h8⟩
    · have ok : BkOk epoch now term place a b es := ⟨h0, h1, h2, h3, by omega, by omega, h4, h5, h6, hr, hl⟩
      exact .inr ⟨bk_g1 ok (fun x hx => by
        by_cases e : x.1 = a
        · exact e
        · exact absurd ⟨x, hx, e⟩ hw), ok⟩

set_option maxRecDepth 100000 in
set_option maxHeartbeats 2000000 in
theorem back_any (w : World) (epoch : Int) (al : Option Addr) (len cap : Nat) (z : Nat → Nat → Int) (now term place a b : Int) (hz : IsRecs w 4 al len cap z) (hk : (Lit.int .i64 place).wf = true)
    (h0 : 0 ≤ epoch) (h1 : epoch ≤ 1073741824) (h2 : 0 ≤ now) (h3 : now ≤ 1073741824) (h4 : 0 ≤ a) (h5 : 0 ≤ b) (h6 : ¬ a = b) (hab : (a == b) = false) :
    Calls Try.prog 9 #[.int .i64 epoch, .slice al len cap, .int .i64 now, .int .i64 term, .int .i64 place, .int .i64 a, .int .i64 b] w (TrueOnly w) := by
  have HZ := Lib.hid hz
  have HK := Lib.hid hk
  have HE : Hid (-9223372036854775808 ≤ epoch) := Lib.hid (by omega)
  have HE1 : Hid (-9223372036854775808 ≤ epoch + 1) := Lib.hid (by omega)
  have H3 := fun es => back_three epoch now term place a b es h0 h1 h2 h3 h4 h5 h6
  have HH := Lib.hid H3
  clear hz hk H3
  go_enter Try.func9, Try.ntmps9
  go_wp2_with (first
    | (go_at_call 31; refine (begin_any _ epoch 0 al len cap z HZ.out).mono ?_; rintro e W1 ⟨m, es, v, rfl, hm', hx', hl', hw', hr', hb', ho'⟩; obtain ⟨ra, rn, rc, rfl⟩ := own_val hx'; have ho := Lib.hid ((ho'.alloc (.cells #[.int .i64 epoch, .int .i64 0, .map (some m)] 57)).alloc (.cells #[.int .i64 epoch, .int .i64 0, .slice ra rn rc] 59)); have V0 := Lib.hid (begun_var (epoch := epoch) (ra := ra) (rn := rn) (rc := rc) hm' ho'); have H4 := Lib.hid (HH.out es hr' hl'); have HL : Hid ((lasting es now).length < 1000000) := Lib.hid (by have := lasting_len es now; omega); clear hm' hx' hl' hw' hr' hb' ho'; unfold lval xval)
    | fail)
  rcases H4.out with ⟨c, hc, HG'⟩ | ⟨HG', HOK'⟩
  · have HG := Lib.hid HG'
    have hcn : (c == 0) = false := by rcases hc with rfl | rfl <;> rfl
    have hcd : decide (c = 0) = false := by rcases hc with rfl | rfl <;> rfl
    clear HG' H4 HH hc
    go_wp2_with (first
      | (go_at_call 34; have HR := grantL_any _ (lval epoch 0 (some m)) ⟨epoch, 0, es⟩ now term place a V0.out.is HK.out HE.out HL.out; unfold lval at HR; (with_reducible refine HR.mono ?_); clear HR; rw [HG.out]; rintro e W2 ⟨v1, rfl, ⟨m1, rfl, x1'⟩, ho'⟩; have o2 := Lib.hid ((ho.out.then ho' ho.out.size).alloc (.cells #[.int .i64 epoch, .int .i64 0, .map m1] 57)); clear x1' ho'; unfold lval)
      | (go_at_call 32; refine (awake18 _).mono ?_; rintro e W9 ⟨rfl, ho2'⟩)
      | fail)
    go_ret
    exact ⟨rfl, o2.out.then ho2' o2.out.size⟩
  · have HG := Lib.hid HG'
    have HO := Lib.hid HOK'
    obtain ⟨S3, hg3⟩ := bk_g3 HOK'
    obtain ⟨S4, hg4⟩ := bk_g4 HOK'
    have G2 := Lib.hid (bk_g2 HOK')
    have G3 := Lib.hid hg3
    have G4 := Lib.hid hg4
    have L1 := Lib.hid (bk_l1 HOK')
    have L2 := Lib.hid (bk_l2 HOK')
    have hlast : decide (epoch < epoch + 1 + 1) = true := decide_eq_true (by omega)
    have ht0 := HOK'.t0
    have ht1 := HOK'.t1
    clear HG' HOK' H4 HH hg3 hg4
    go_wp2_with (first
      | (go_at_call 34; have HR := grantL_any _ (lval epoch 0 (some m)) ⟨epoch, 0, es⟩ now term place a V0.out.is HK.out HE.out HL.out; unfold lval at HR; (with_reducible refine HR.mono ?_); clear HR; rw [HG.out]; rintro e W2 ⟨v1, rfl, ⟨m1, rfl, x1'⟩, ho'⟩; have o2 := Lib.hid ((ho.out.then ho' ho.out.size).alloc (.cells #[.int .i64 (epoch + 1), .int .i64 0, .map m1] 57)); have V1 : Hid (LVar (W2.alloc (.cells #[.int .i64 (epoch + 1), .int .i64 0, .map m1] 57)) W2.heap.size (bkT epoch now term place a es) m1) := Lib.hid (LVar.new (h := bkT epoch now term place a es) x1'); clear x1' ho'; unfold lval; dsimp only [bkT])
      | (go_at_call 34; have HR := grantL_any _ (lval (epoch + 1) 0 m1) (bkT epoch now term place a es) (now + term - 1) term place b V1.out.is HK.out HE1.out (bk_few HO.out _); unfold lval at HR; (with_reducible refine HR.mono ?_); clear HR; rw [G2.out]; rintro e W3 ⟨v2, rfl, ⟨m2, rfl, x1'⟩, ho'⟩; have o3 := Lib.hid ((o2.out.then ho' o2.out.size).alloc (.cells #[.int .i64 (epoch + 1), .int .i64 0, .map m2] 57)); have V2 := Lib.hid (V1.out.kept (ho'.alloc (.cells #[.int .i64 (epoch + 1), .int .i64 0, .map m2] 57))); clear x1' ho'; obtain ⟨b0, b1, b2, _⟩ := V2.out.box; unfold lval; dsimp only [bkT] at b0 b1 ⊢)
      | (go_at_call 34; have HR := grantL_any _ (lval (epoch + 1) 0 m1) (bkT epoch now term place a es) (now + term) term place b V2.out.is HK.out HE1.out (bk_few HO.out _); unfold lval at HR; (with_reducible refine HR.mono ?_); clear HR; rw [G3.out]; rintro e W4 ⟨v3, rfl, ⟨m3, rfl, x1'⟩, ho'⟩; have o4 := Lib.hid ((o3.out.then ho' o3.out.size).alloc (.cells #[.int .i64 (epoch + 1 + 1), .int .i64 0, .map m3] 57)); have V3 := Lib.hid (V2.out.kept (ho'.alloc (.cells #[.int .i64 (epoch + 1 + 1), .int .i64 0, .map m3] 57))); clear x1' ho' b0 b1 b2; obtain ⟨b0, b1, b2, _⟩ := V3.out.box; unfold lval; dsimp only [bkT] at b0 b1 ⊢)
      | (go_at_call 36; have HR := letL_any _ (lval (epoch + 1) 0 m1) (bkT epoch now term place a es) now place a (epoch + 1) V3.out.is HK.out; unfold lval at HR; (with_reducible refine HR.mono ?_); clear HR; rw [L1.out]; rintro e W5 ⟨v4, rfl, ⟨m4, rfl, x1'⟩, ho'⟩; have o5 := Lib.hid ((o4.out.then ho' o4.out.size).alloc (.cells #[.int .i64 (epoch + 1), .int .i64 0, .map m4] 57)); have V4 := Lib.hid (V3.out.kept (ho'.alloc (.cells #[.int .i64 (epoch + 1), .int .i64 0, .map m4] 57))); have VU : Hid (LVar (W5.alloc (.cells #[.int .i64 (epoch + 1), .int .i64 0, .map m4] 57)) W5.heap.size (bkU epoch now term place a es) m4) := Lib.hid (LVar.new (h := bkU epoch now term place a es) x1'); clear x1' ho' b0 b1 b2; unfold lval; dsimp only [bkU])
      | (go_at_call 34; have HR := grantL_any _ (lval (epoch + 1) 0 m4) (bkU epoch now term place a es) now term place b VU.out.is HK.out HE1.out (bk_fewU HO.out _); unfold lval at HR; (with_reducible refine HR.mono ?_); clear HR; rw [G4.out]; rintro e W6 ⟨v5, rfl, ⟨m5, rfl, x1'⟩, ho'⟩; have o6 := Lib.hid ((o5.out.then ho' o5.out.size).alloc (.cells #[.int .i64 (epoch + 1 + 1), .int .i64 0, .map m5] 57)); have V5 := Lib.hid (V4.out.kept (ho'.alloc (.cells #[.int .i64 (epoch + 1 + 1), .int .i64 0, .map m5] 57))); clear x1' ho'; obtain ⟨b0, b1, b2, _⟩ := V5.out.box; unfold lval; dsimp only [bkT] at b0 b1 ⊢)
      | (go_at_call 36; have HR := letL_any _ (lval (epoch + 1) 0 m1) (bkT epoch now term place a es) now place b (epoch + 1) V5.out.is HK.out; unfold lval at HR; (with_reducible refine HR.mono ?_); clear HR; rw [L2.out]; rintro e W7 ⟨v6, rfl, ⟨m6, rfl, x1'⟩, ho'⟩; have o7 := Lib.hid ((o6.out.then ho' o6.out.size).alloc (.cells #[.int .i64 (epoch + 1), .int .i64 0, .map m6] 57)); have V6 := Lib.hid (V5.out.kept (ho'.alloc (.cells #[.int .i64 (epoch + 1), .int .i64 0, .map m6] 57))); clear x1' ho' b0 b1 b2; unfold lval; dsimp only [bkT])
      | (go_at_call 32; refine (awake18 _).mono ?_; rintro e W8 ⟨rfl, ho2'⟩; obtain ⟨b0, b1, b2, _⟩ := (V6.out.kept ho2').box; dsimp only [bkT] at b0 b1 ⊢)
      | fail)
    go_ret
    exact ⟨rfl, o7.out.then ho2' o7.out.size⟩
end Go.Proofs.Ytefllgpehhlkoaa
