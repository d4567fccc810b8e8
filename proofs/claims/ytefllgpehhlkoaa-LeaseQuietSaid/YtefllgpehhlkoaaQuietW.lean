/-
  LeaseQuiet, its walk.
-/
import Derived.Test.YtefllgpehhlkoaaLease11
import Derived.Test.YtefllgpehhlkoaaEarlyW
namespace Go.Proofs.Ytefllgpehhlkoaa
open Go.RowKit Go.Maps

theorem quietL_of {now term : Int} (h1 : 0 ≤ now) (h2 : now ≤ 1073741824) (h3 : 1 ≤ term) (h4 : term ≤ 1048576) : quietL now term = now + term := by unfold quietL; omega

theorem few_nil (now : Int) : (lasting [] now).length < 1000000 := by simp [lasting]

set_option maxRecDepth 100000 in
set_option maxHeartbeats 1000000 in
theorem quiet_bad (w : World) (epoch : Int) (a : Option Addr) (len cap : Nat) (z : Nat → Nat → Int) (now term later place holder : Int) (hz : IsRecs w 4 a len cap z)
    (hb : epoch < 0 ∨ 1073741824 < epoch ∨ now < 0 ∨ 1073741824 < now ∨ term < 1 ∨ 1048576 < term ∨ later < 0 ∨ 1073741824 < later ∨ holder < 0) :
    Calls Try.prog 8 #[.int .i64 epoch, .slice a len cap, .int .i64 now, .int .i64 term, .int .i64 later, .int .i64 place, .int .i64 holder] w (TrueOnly w) := by
  have HZ := Lib.hid hz
  have HB := Lib.hid hb
  clear hz hb
  go_enter Try.func8, Try.ntmps8
  go_wp2_with (first
    | (go_at_call 31; refine (begin_any _ epoch 0 a len cap z HZ.out).mono ?_; rintro e W1 ⟨m, es, v, rfl, hm', hx', hl', hw', hr', hb', ho'⟩; obtain ⟨ra, rn, rc, rfl⟩ := own_val hx'; have ho := Lib.hid ((ho'.alloc (.cells #[.int .i64 epoch, .int .i64 0, .map (some m)] 57)).alloc (.cells #[.int .i64 epoch, .int .i64 0, .slice ra rn rc] 59)); clear hm' hx' hl' hw' hr' hb' ho'; unfold lval xval)
    | (go_at_call 32; refine (awake18 _).mono ?_; rintro e W2 ⟨rfl, ho2'⟩)
    | fail)
  all_goals first
    | (exfalso; have := HB.out; clear HB; omega)
    | (go_ret; exact ⟨rfl, ho.out.then ho2' ho.out.size⟩)

set_option maxRecDepth 100000 in
set_option maxHeartbeats 1000000 in
theorem quiet_late (w : World) (epoch : Int) (a : Option Addr) (len cap : Nat) (z : Nat → Nat → Int) (now term later place holder : Int) (hz : IsRecs w 4 a len cap z) (hk : (Lit.int .i64 place).wf = true)
    (h0 : 0 ≤ epoch) (h1 : epoch ≤ 1073741824) (h2 : 0 ≤ now) (h3 : now ≤ 1073741824) (h4 : 1 ≤ term) (h5 : term ≤ 1048576) (h6 : 0 ≤ later) (h7 : later ≤ 1073741824) (h8 : 0 ≤ holder) (hl : later < now + term) :
    Calls Try.prog 8 #[.int .i64 epoch, .slice a len cap, .int .i64 now, .int .i64 term, .int .i64 later, .int .i64 place, .int .i64 holder] w (TrueOnly w) := by
  have HZ := Lib.hid hz
  have HK := Lib.hid hk
  have HG : Hid (grantL ⟨epoch, quietL now term, []⟩ later term place holder = (⟨epoch, quietL now term, []⟩, 0, 16)) := Lib.hid (by
    unfold grantL; rw [if_neg (by omega), if_pos (by show later < quietL now term; rw [quietL_of h2 h3 h4 h5]; exact hl)])
  have HE : Hid (-9223372036854775808 ≤ epoch) := Lib.hid (by omega)
  clear hz hk
  go_enter Try.func8, Try.ntmps8
  go_wp2_with (first
    | (go_at_call 31; refine (begin_any _ epoch 0 a len cap z HZ.out).mono ?_; rintro e W1 ⟨m, es, v, rfl, hm', hx', hl', hw', hr', hb', ho'⟩; obtain ⟨ra, rn, rc, rfl⟩ := own_val hx'; have ho := Lib.hid ((ho'.alloc (.cells #[.int .i64 epoch, .int .i64 0, .map (some m)] 57)).alloc (.cells #[.int .i64 epoch, .int .i64 0, .slice ra rn rc] 59)); clear hm' hx' hl' hw' hr' hb' ho'; unfold lval xval)
    | (go_at_call 33; have HR := restart_any ((W1.alloc (.cells #[.int .i64 epoch, .int .i64 0, .map (some m)] 57)).alloc (.cells #[.int .i64 epoch, .int .i64 0, .slice ra rn rc] 59)) epoch 0 now term (some m); unfold lval at HR; (with_reducible refine HR.mono ?_); clear HR; rintro e W2 ⟨rfl, ho2'⟩; have ho2 := Lib.hid ((ho.out.then ho2' ho.out.size).alloc (.cells #[.int .i64 epoch, .int .i64 (quietL now term), .map none] 57)); clear ho2')
    | (go_at_call 34; go_loud (have HR := grantL_any (W2.alloc (.cells #[.int .i64 epoch, .int .i64 (quietL now term), .map none] 57)) (lval epoch (quietL now term) none) ⟨epoch, quietL now term, []⟩ later term place holder ⟨none, rfl, rfl⟩ HK.out HE.out (few_nil later); unfold lval at HR; (with_reducible refine HR.mono ?_); clear HR; rw [HG.out]; rintro e W3 ⟨v3, rfl, ⟨m3, rfl, x3'⟩, ho3'⟩; have ho3 := Lib.hid ((ho2.out.then ho3' ho2.out.size).alloc (.cells #[.int .i64 epoch, .int .i64 (quietL now term), .map m3] 57)); clear x3' ho3'; unfold lval))
    | (go_at_call 32; refine (awake18 _).mono ?_; rintro e W4 ⟨rfl, ho4'⟩)
    | fail)
  go_ret
  exact ⟨rfl, ho3.out.then ho4' ho3.out.size⟩

set_option maxRecDepth 100000 in
set_option maxHeartbeats 1000000 in
theorem quiet_then (w : World) (epoch : Int) (a : Option Addr) (len cap : Nat) (z : Nat → Nat → Int) (now term later place holder : Int) (hz : IsRecs w 4 a len cap z) (hk : (Lit.int .i64 place).wf = true)
    (h0 : 0 ≤ epoch) (h1 : epoch ≤ 1073741824) (h2 : 0 ≤ now) (h3 : now ≤ 1073741824) (h4 : 1 ≤ term) (h5 : term ≤ 1048576) (h6 : 0 ≤ later) (h7 : later ≤ 1073741824) (h8 : 0 ≤ holder) (hl : now + term ≤ later) :
    Calls Try.prog 8 #[.int .i64 epoch, .slice a len cap, .int .i64 now, .int .i64 term, .int .i64 later, .int .i64 place, .int .i64 holder] w (TrueOnly w) := by
  have HZ := Lib.hid hz
  have HK := Lib.hid hk
  have HG : Hid (grantL ⟨epoch, quietL now term, []⟩ later term place holder = (⟨epoch + 1, quietL now term, [(place, (holder, epoch + 1, later + term))]⟩, epoch + 1, 0)) := Lib.hid (by
    unfold grantL; rw [if_neg (by omega), if_neg (by show ¬ later < quietL now term; rw [quietL_of h2 h3 h4 h5]; omega), if_neg (by simp [lasting, mget]), if_neg (by show ¬ 1099511627776 ≤ epoch; omega)]; rfl)
  have HE : Hid (-9223372036854775808 ≤ epoch) := Lib.hid (by omega)
  clear hz hk
  go_enter Try.func8, Try.ntmps8
  go_wp2_with (first
    | (go_at_call 31; refine (begin_any _ epoch 0 a len cap z HZ.out).mono ?_; rintro e W1 ⟨m, es, v, rfl, hm', hx', hl', hw', hr', hb', ho'⟩; obtain ⟨ra, rn, rc, rfl⟩ := own_val hx'; have ho := Lib.hid ((ho'.alloc (.cells #[.int .i64 epoch, .int .i64 0, .map (some m)] 57)).alloc (.cells #[.int .i64 epoch, .int .i64 0, .slice ra rn rc] 59)); clear hm' hx' hl' hw' hr' hb' ho'; unfold lval xval)
    | (go_at_call 33; have HR := restart_any ((W1.alloc (.cells #[.int .i64 epoch, .int .i64 0, .map (some m)] 57)).alloc (.cells #[.int .i64 epoch, .int .i64 0, .slice ra rn rc] 59)) epoch 0 now term (some m); unfold lval at HR; (with_reducible refine HR.mono ?_); clear HR; rintro e W2 ⟨rfl, ho2'⟩; have ho2 := Lib.hid ((ho.out.then ho2' ho.out.size).alloc (.cells #[.int .i64 epoch, .int .i64 (quietL now term), .map none] 57)); have HX := Lib.hid (LBox.of (top_at W2 (.cells #[.int .i64 epoch, .int .i64 (quietL now term), .map none] 57) W2.heap.size rfl)); clear ho2')
    | (go_at_call 34; go_loud (have HR := grantL_any (W2.alloc (.cells #[.int .i64 epoch, .int .i64 (quietL now term), .map none] 57)) (lval epoch (quietL now term) none) ⟨epoch, quietL now term, []⟩ later term place holder ⟨none, rfl, rfl⟩ HK.out HE.out (few_nil later); unfold lval at HR; (with_reducible refine HR.mono ?_); clear HR; rw [HG.out]; rintro e W3 ⟨v3, rfl, ⟨m3, rfl, x3'⟩, ho3'⟩; have ho3 := Lib.hid ((ho2.out.then ho3' ho2.out.size).alloc (.cells #[.int .i64 (epoch + 1), .int .i64 (quietL now term), .map m3] 57)); have HX3 := Lib.hid (HX.out.kept (ho3'.alloc (.cells #[.int .i64 (epoch + 1), .int .i64 (quietL now term), .map m3] 57)) (by simp) (.inl (by simp))); have HW : Hid (W2.heap.size < W3.heap.size) := Lib.hid (by have := ho3'.size; simp at this; omega); clear x3' ho3'; unfold lval))
    | (go_at_call 32; refine (awake18 _).mono ?_; rintro e W4 ⟨rfl, ho4'⟩; obtain ⟨g0, g1, g2, _⟩ := HX3.out.kept ho4' (by have := HW.out; simp; omega) (.inl (by have := HW.out; simp; omega)); have ho4 := Lib.hid (ho3.out.then ho4' ho3.out.size); clear ho4')
    | (go_at_call 35; have HR := count_any W4 epoch (quietL now term) 0 none [] rfl (by decide); unfold lval at HR; (with_reducible refine HR.mono ?_); clear HR; rintro e W5 ⟨rfl, ho5'⟩)
    | fail)
  go_ret
  exact ⟨rfl, ho4.out.then ho5' ho4.out.size⟩
end Go.Proofs.Ytefllgpehhlkoaa
