/-
  The lease (layer 18): Grant. (Printed by wip/tools/lease5.py.)
-/
import Derived.Test.YtefllgpehhlkoaaLease4
namespace Go.Proofs.Ytefllgpehhlkoaa
open Go.RowKit Go.Maps
set_option linter.unusedVariables false

/-- Grant: the state, the epoch, the error -/
def grantL (h : LS) (now term place holder : Int) : LS × Int × Int :=
  if term < 1 ∨ 1048576 < term ∨ now < 0 ∨ 1099511627776 < now ∨ holder < 0 then (h, 0, 1)
  else if now < h.quiet then (h, 0, 16)
  else if ∃ x, mget (lasting h.hs now) place = some x ∧ ¬ x.1 = holder then (h, 0, 15)
  else if 1099511627776 ≤ h.epoch then (h, 0, 2)
  else (⟨h.epoch + 1, h.quiet, mput (lasting h.hs now) place (holder, h.epoch + 1, now + term)⟩, h.epoch + 1, 0)
/-- what Grant leaves -/
def LAsked (w : World) (r : LS × Int × Int) (e : Ending) (w' : World) : Prop :=
  ∃ v, e = .returned (.tuple #[v, .int .i64 r.2.1, .int .i64 r.2.2]) ∧ LIs w' v r.1 ∧ Only w.heap.size w.heap.size w w'

set_option maxRecDepth 100000 in
set_option maxHeartbeats 1000000 in
theorem grantL_arg0 (w : World) (ep qu now term place holder : Int) (es : Trips) (m : Option Nat) (h1 : Hid (MapIs tripE w m es)) (hd0 : decide (term < 1) = true) (hB : Hid (grantL ⟨ep, qu, es⟩ now term place holder = (⟨ep, qu, es⟩, 0, 1))) :
    Calls Try.prog 34 #[lval ep qu m, .int .i64 now, .int .i64 term, .int .i64 place, .int .i64 holder] w (LAsked w (grantL ⟨ep, qu, es⟩ now term place holder)) := by
  have hO : Hid (Only w.heap.size w.heap.size w w) := Lib.hid (Only.refl _ _ _)
  unfold lval
  go_enter Try.func34, Try.ntmps34
  go_wp2
  refine bodyPost_ret (v := .tuple #[lval ep qu m, .int .i64 0, .int .i64 1]) (by simp [results, Try.results34, go_sem, lval]) rfl ?_
  rw [hB.out]
  exact ⟨_, rfl, ⟨m, rfl, h1.out.kept ((hO.out.alloc _).alloc _) (by omega)⟩, (hO.out.alloc _).alloc _⟩

set_option maxRecDepth 100000 in
set_option maxHeartbeats 1000000 in
theorem grantL_arg1 (w : World) (ep qu now term place holder : Int) (es : Trips) (m : Option Nat) (h1 : Hid (MapIs tripE w m es)) (hd0 : decide (term < 1) = false) (hd1 : decide (1048576 < term) = true) (hB : Hid (grantL ⟨ep, qu, es⟩ now term place holder = (⟨ep, qu, es⟩, 0, 1))) :
    Calls Try.prog 34 #[lval ep qu m, .int .i64 now, .int .i64 term, .int .i64 place, .int .i64 holder] w (LAsked w (grantL ⟨ep, qu, es⟩ now term place holder)) := by
  have hO : Hid (Only w.heap.size w.heap.size w w) := Lib.hid (Only.refl _ _ _)
  unfold lval
  go_enter Try.func34, Try.ntmps34
  go_wp2
  refine bodyPost_ret (v := .tuple #[lval ep qu m, .int .i64 0, .int .i64 1]) (by simp [results, Try.results34, go_sem, lval]) rfl ?_
  rw [hB.out]
  exact ⟨_, rfl, ⟨m, rfl, h1.out.kept ((hO.out.alloc _).alloc _) (by omega)⟩, (hO.out.alloc _).alloc _⟩

set_option maxRecDepth 100000 in
set_option maxHeartbeats 1000000 in
theorem grantL_arg2 (w : World) (ep qu now term place holder : Int) (es : Trips) (m : Option Nat) (h1 : Hid (MapIs tripE w m es)) (hd0 : decide (term < 1) = false) (hd1 : decide (1048576 < term) = false) (hd2 : decide (now < 0) = true) (hB : Hid (grantL ⟨ep, qu, es⟩ now term place holder = (⟨ep, qu, es⟩, 0, 1))) :
    Calls Try.prog 34 #[lval ep qu m, .int .i64 now, .int .i64 term, .int .i64 place, .int .i64 holder] w (LAsked w (grantL ⟨ep, qu, es⟩ now term place holder)) := by
  have hO : Hid (Only w.heap.size w.heap.size w w) := Lib.hid (Only.refl _ _ _)
  unfold lval
  go_enter Try.func34, Try.ntmps34
  go_wp2
  refine bodyPost_ret (v := .tuple #[lval ep qu m, .int .i64 0, .int .i64 1]) (by simp [results, Try.results34, go_sem, lval]) rfl ?_
  rw [hB.out]
  exact ⟨_, rfl, ⟨m, rfl, h1.out.kept ((hO.out.alloc _).alloc _) (by omega)⟩, (hO.out.alloc _).alloc _⟩

set_option maxRecDepth 100000 in
set_option maxHeartbeats 1000000 in
theorem grantL_arg3 (w : World) (ep qu now term place holder : Int) (es : Trips) (m : Option Nat) (h1 : Hid (MapIs tripE w m es)) (hd0 : decide (term < 1) = false) (hd1 : decide (1048576 < term) = false) (hd2 : decide (now < 0) = false) (hd3 : decide (1099511627776 < now) = true) (hB : Hid (grantL ⟨ep, qu, es⟩ now term place holder = (⟨ep, qu, es⟩, 0, 1))) :
    Calls Try.prog 34 #[lval ep qu m, .int .i64 now, .int .i64 term, .int .i64 place, .int .i64 holder] w (LAsked w (grantL ⟨ep, qu, es⟩ now term place holder)) := by
  have hO : Hid (Only w.heap.size w.heap.size w w) := Lib.hid (Only.refl _ _ _)
  unfold lval
  go_enter Try.func34, Try.ntmps34
  go_wp2
  refine bodyPost_ret (v := .tuple #[lval ep qu m, .int .i64 0, .int .i64 1]) (by simp [results, Try.results34, go_sem, lval]) rfl ?_
  rw [hB.out]
  exact ⟨_, rfl, ⟨m, rfl, h1.out.kept ((hO.out.alloc _).alloc _) (by omega)⟩, (hO.out.alloc _).alloc _⟩

set_option maxRecDepth 100000 in
set_option maxHeartbeats 1000000 in
theorem grantL_arg4 (w : World) (ep qu now term place holder : Int) (es : Trips) (m : Option Nat) (h1 : Hid (MapIs tripE w m es)) (hd0 : decide (term < 1) = false) (hd1 : decide (1048576 < term) = false) (hd2 : decide (now < 0) = false) (hd3 : decide (1099511627776 < now) = false) (hd4 : decide (holder < 0) = true) (hB : Hid (grantL ⟨ep, qu, es⟩ now term place holder = (⟨ep, qu, es⟩, 0, 1))) :
    Calls Try.prog 34 #[lval ep qu m, .int .i64 now, .int .i64 term, .int .i64 place, .int .i64 holder] w (LAsked w (grantL ⟨ep, qu, es⟩ now term place holder)) := by
  have hO : Hid (Only w.heap.size w.heap.size w w) := Lib.hid (Only.refl _ _ _)
  unfold lval
  go_enter Try.func34, Try.ntmps34
  go_wp2
  refine bodyPost_ret (v := .tuple #[lval ep qu m, .int .i64 0, .int .i64 1]) (by simp [results, Try.results34, go_sem, lval]) rfl ?_
  rw [hB.out]
  exact ⟨_, rfl, ⟨m, rfl, h1.out.kept ((hO.out.alloc _).alloc _) (by omega)⟩, (hO.out.alloc _).alloc _⟩

set_option maxRecDepth 100000 in
set_option maxHeartbeats 1000000 in
theorem grantL_late (w : World) (ep qu now term place holder : Int) (es : Trips) (m : Option Nat) (h1 : Hid (MapIs tripE w m es)) (hd0 : decide (term < 1) = false) (hd1 : decide (1048576 < term) = false) (hd2 : decide (now < 0) = false) (hd3 : decide (1099511627776 < now) = false) (hd4 : decide (holder < 0) = false) (hq : decide (now < qu) = true) (hB : Hid (grantL ⟨ep, qu, es⟩ now term place holder = (⟨ep, qu, es⟩, 0, 16))) :
    Calls Try.prog 34 #[lval ep qu m, .int .i64 now, .int .i64 term, .int .i64 place, .int .i64 holder] w (LAsked w (grantL ⟨ep, qu, es⟩ now term place holder)) := by
  have hO : Hid (Only w.heap.size w.heap.size w w) := Lib.hid (Only.refl _ _ _)
  unfold lval
  go_enter Try.func34, Try.ntmps34
  go_wp2
  refine bodyPost_ret (v := .tuple #[lval ep qu m, .int .i64 0, .int .i64 16]) (by simp [results, Try.results34, go_sem, lval]) rfl ?_
  rw [hB.out]
  exact ⟨_, rfl, ⟨m, rfl, h1.out.kept ((hO.out.alloc _).alloc _) (by omega)⟩, (hO.out.alloc _).alloc _⟩

theorem LBox.low {w : World} {b n : Nat} {epoch quiet : Int} {m : Option Nat} (h : LBox w b epoch quiet m) (hz : n ≤ w.heap.size) (hb : b < n) {A B : Obj} : LBox ((w.alloc A).alloc B) b epoch quiet m :=
  (h.kept ((Only.refl w.heap.size w.heap.size w).alloc A) (by omega) (.inl (by omega))).kept ((Only.refl w.heap.size w.heap.size _).alloc B) (by simp; omega) (.inl (by omega))

theorem LBox.low3 {w : World} {b n : Nat} {epoch quiet : Int} {m : Option Nat} (h : LBox w b epoch quiet m) (hz : n ≤ w.heap.size) (hb : b < n) {A B C : Obj} : LBox (((w.alloc A).alloc B).alloc C) b epoch quiet m :=
  (h.low hz hb).kept ((Only.refl w.heap.size w.heap.size _).alloc C) (by simp; omega) (.inl (by omega))

set_option maxRecDepth 100000 in
set_option maxHeartbeats 1000000 in
theorem grantL_busy (w : World) (ep qu now term place holder : Int) (es : Trips) (m : Option Nat) (h1 : Hid (MapIs tripE w m es)) (HK : Hid ((Lit.int .i64 place).wf = true)) (hd0 : decide (term < 1) = false) (hd1 : decide (1048576 < term) = false) (hd2 : decide (now < 0) = false) (hd3 : decide (1099511627776 < now) = false) (hd4 : decide (holder < 0) = false) (hq : decide (now < qu) = false) (HM : Hid (m ≠ none)) (x0 x1 x2 : Int) (hm : mget (lasting es now) place = some (x0, x1, x2)) (hx : ¬ x0 = holder) (hxd : decide (x0 = holder) = false) (hB : Hid (grantL ⟨ep, qu, es⟩ now term place holder = (⟨ep, qu, es⟩, 0, 15))) :
    Calls Try.prog 34 #[lval ep qu m, .int .i64 now, .int .i64 term, .int .i64 place, .int .i64 holder] w (LAsked w (grantL ⟨ep, qu, es⟩ now term place holder)) := by
  have hO : Hid (Only w.heap.size w.heap.size w w) := Lib.hid (Only.refl _ _ _)
  have hv : ∀ x, lval ep qu x = .agg #[.int .i64 ep, .int .i64 qu, .map x] := fun _ => rfl
  have hg : lval ep qu m = .agg #[.int .i64 ep, .int .i64 qu, .map m] := rfl
  have RB0 : Hid (LBox ((w.alloc (.cells #[.int .i64 ep, .int .i64 qu, .map m] 57)).alloc (.cells #[.int .i64 0, .int .i64 0, .map none] 57)) (w.heap.size + 1) 0 0 none) := Lib.hid (LBox.of (top_at _ _ _ (by simp)))
  have SB0 : Hid (LBox ((w.alloc (.cells #[.int .i64 ep, .int .i64 qu, .map m] 57)).alloc (.cells #[.int .i64 0, .int .i64 0, .map none] 57)) w.heap.size ep qu m) := Lib.hid (LBox.of ((low_at _ _ _ (by simp)).trans (top_at _ _ _ (by simp))))
  rw [hg]
  clear hg
  go_enter Try.func34, Try.ntmps34
  have hqn := fun w => Go.Proofs.run_eql_map_nil_sl (P := Try.prog) w 55 _ _ none Try.underlying55
  have hqs : ∀ n w, Sem.run Try.prog (binOp BinOp.eql 55 (Value.map (some n)) (Value.map none)) w = Result.ok (Value.bool false) w := fun n w => Go.Proofs.run_eql_map_nil_sl (P := Try.prog) w 55 _ _ (some n) Try.underlying55
  go_wp2_with (first
    | (go_at_call 55; go_loud (refine (copied_any _ ep qu now m es (h1.out.kept ((hO.out.alloc _).alloc _) (by omega))).mono ?_; rintro e W1 ⟨m', rfl, g1', hn', hb', ho'⟩; obtain ⟨b1, rfl⟩ : ∃ b1, m' = some b1 := (by cases m' with | none => exact absurd (hn'.1 rfl) HM.out | some b1 => exact ⟨b1, rfl⟩); have hb1 := Lib.hid (hb' b1 rfl); rw [hv]; have g1 : Hid (MapIs tripE W1 (some b1) (lasting es now)) := Lib.hid g1'; have ho := Lib.hid ho'; have hl := MapIs.look (w := W1.alloc (.cells #[.int .i64 ep, .int .i64 qu, .map (some b1)] 57)) (g1'.kept ((Only.refl W1.heap.size W1.heap.size W1).alloc _) (by omega)) Try.underlying55 (zero82 _) place HK.out; rw [hm] at hl; simp only [got, tripE, Option.getD_some, Option.isSome_some] at hl; have RB := Lib.hid (RB0.out.kept ho' (by simp) (.inl (by simp))); have SB := Lib.hid (SB0.out.kept ho' (by simp; omega) (.inl (by simp; omega))); have hz : Hid (w.heap.size + 2 ≤ W1.heap.size) := Lib.hid (by have := ho'.size; simp at this; omega); clear g1' hn' hb' ho'; obtain ⟨s0, s1, s2, sf⟩ : LBox ((W1.alloc (.cells #[.int .i64 ep, .int .i64 qu, .map (some b1)] 57)).alloc (.cells #[.int .i64 x0, .int .i64 x1, .int .i64 x2] 82)) w.heap.size ep qu m := (SB.out.low hz.out (by omega)); have hR' : LBox ((W1.alloc (.cells #[.int .i64 ep, .int .i64 qu, .map (some b1)] 57)).alloc (.cells #[.int .i64 x0, .int .i64 x1, .int .i64 x2] 82)) (w.heap.size + 1) 0 0 none := (RB.out.low hz.out (by omega)); obtain ⟨k0, k1, k2⟩ := hR'.keys; obtain ⟨r0, r1, r2, rf⟩ := hR'))
    | fail)
  refine bodyPost_ret (v := .tuple #[lval ep qu m, .int .i64 0, .int .i64 15]) (by simp [results, Try.results34, go_sem, lval, k0, k1, k2]) rfl ?_
  have hs := three_only ((W1.alloc (.cells #[.int .i64 ep, .int .i64 qu, .map (some b1)] 57)).alloc (.cells #[.int .i64 x0, .int .i64 x1, .int .i64 x2] 82)) (w.heap.size + 1) ep qu m
  have oo := (((((hO.out.alloc _).alloc _).then ho.out (by simp; omega)).alloc _).alloc _).fresh (hs.mono (by omega) (Nat.le_refl _))
  rw [hB.out]
  exact ⟨_, rfl, ⟨m, rfl, h1.out.kept oo (by omega)⟩, oo⟩

set_option maxRecDepth 100000 in
set_option maxHeartbeats 1000000 in
theorem grantL_big0 (w : World) (ep qu now term place holder : Int) (es : Trips) (m : Option Nat) (h1 : Hid (MapIs tripE w m es)) (HK : Hid ((Lit.int .i64 place).wf = true)) (hd0 : decide (term < 1) = false) (hd1 : decide (1048576 < term) = false) (hd2 : decide (now < 0) = false) (hd3 : decide (1099511627776 < now) = false) (hd4 : decide (holder < 0) = false) (hq : decide (now < qu) = false) (HM : Hid (m = none)) (hm : mget (lasting es now) place = none) (hbig : decide (1099511627776 ≤ ep) = true) (hB : Hid (grantL ⟨ep, qu, es⟩ now term place holder = (⟨ep, qu, es⟩, 0, 2))) :
    Calls Try.prog 34 #[lval ep qu m, .int .i64 now, .int .i64 term, .int .i64 place, .int .i64 holder] w (LAsked w (grantL ⟨ep, qu, es⟩ now term place holder)) := by
  have hO : Hid (Only w.heap.size w.heap.size w w) := Lib.hid (Only.refl _ _ _)
  have hv : ∀ x, lval ep qu x = .agg #[.int .i64 ep, .int .i64 qu, .map x] := fun _ => rfl
  have hg : lval ep qu m = .agg #[.int .i64 ep, .int .i64 qu, .map m] := rfl
  have RB0 : Hid (LBox ((w.alloc (.cells #[.int .i64 ep, .int .i64 qu, .map m] 57)).alloc (.cells #[.int .i64 0, .int .i64 0, .map none] 57)) (w.heap.size + 1) 0 0 none) := Lib.hid (LBox.of (top_at _ _ _ (by simp)))
  have SB0 : Hid (LBox ((w.alloc (.cells #[.int .i64 ep, .int .i64 qu, .map m] 57)).alloc (.cells #[.int .i64 0, .int .i64 0, .map none] 57)) w.heap.size ep qu m) := Lib.hid (LBox.of ((low_at _ _ _ (by simp)).trans (top_at _ _ _ (by simp))))
  rw [hg]
  clear hg
  go_enter Try.func34, Try.ntmps34
  have hmm := @run_makeMap Try.prog
  have hqn := fun w => Go.Proofs.run_eql_map_nil_sl (P := Try.prog) w 55 _ _ none Try.underlying55
  have hqs : ∀ n w, Sem.run Try.prog (binOp BinOp.eql 55 (Value.map (some n)) (Value.map none)) w = Result.ok (Value.bool false) w := fun n w => Go.Proofs.run_eql_map_nil_sl (P := Try.prog) w 55 _ _ (some n) Try.underlying55
  go_wp2_with (first
    | (go_at_call 55; go_loud (refine (copied_any _ ep qu now m es (h1.out.kept ((hO.out.alloc _).alloc _) (by omega))).mono ?_; rintro e W1 ⟨m', rfl, g1', hn', hb', ho'⟩; obtain rfl : m' = none := hn'.2 HM.out; rw [hv]; have g1 : Hid (MapIs tripE W1 none (lasting es now)) := Lib.hid g1'; have ho := Lib.hid ho'; have hl := MapIs.look (w := W1.alloc (.cells #[.int .i64 ep, .int .i64 qu, .map none] 57)) (g1'.kept ((Only.refl W1.heap.size W1.heap.size W1).alloc _) (by omega)) Try.underlying55 (zero82 _) place HK.out; rw [hm] at hl; simp only [got, tripE, Option.getD_none, Option.isSome_none] at hl; have RB := Lib.hid (RB0.out.kept ho' (by simp) (.inl (by simp))); have SB := Lib.hid (SB0.out.kept ho' (by simp; omega) (.inl (by simp; omega))); have hz : Hid (w.heap.size + 2 ≤ W1.heap.size) := Lib.hid (by have := ho'.size; simp at this; omega); clear g1' hn' hb' ho'; obtain ⟨s0, s1, s2, sf⟩ : LBox (((W1.alloc (.cells #[.int .i64 ep, .int .i64 qu, .map (some (W1.heap.size + 1 + 1))] 57)).alloc (.cells #[.int .i64 0, .int .i64 0, .int .i64 0] 82)).alloc (.map #[] 0)) w.heap.size ep qu m := (SB.out.low3 hz.out (by omega)); have hR' : LBox (((W1.alloc (.cells #[.int .i64 ep, .int .i64 qu, .map (some (W1.heap.size + 1 + 1))] 57)).alloc (.cells #[.int .i64 0, .int .i64 0, .int .i64 0] 82)).alloc (.map #[] 0)) (w.heap.size + 1) 0 0 none := (RB.out.low3 hz.out (by omega)); obtain ⟨k0, k1, k2⟩ := hR'.keys; obtain ⟨r0, r1, r2, rf⟩ := hR'))
    | fail)
  refine bodyPost_ret (v := .tuple #[lval ep qu m, .int .i64 0, .int .i64 2]) (by simp [results, Try.results34, go_sem, lval, k0, k1, k2]) rfl ?_
  have hs := three_only (((W1.alloc (.cells #[.int .i64 ep, .int .i64 qu, .map (some (W1.heap.size + 1 + 1))] 57)).alloc (.cells #[.int .i64 0, .int .i64 0, .int .i64 0] 82)).alloc (.map #[] 0)) (w.heap.size + 1) ep qu m
  have oo := ((((((hO.out.alloc _).alloc _).then ho.out (by simp; omega)).alloc _).alloc _).alloc _).fresh (hs.mono (by omega) (Nat.le_refl _))
  rw [hB.out]
  exact ⟨_, rfl, ⟨m, rfl, h1.out.kept oo (by omega)⟩, oo⟩

set_option maxRecDepth 100000 in
set_option maxHeartbeats 1000000 in
theorem grantL_big1 (w : World) (ep qu now term place holder : Int) (es : Trips) (m : Option Nat) (h1 : Hid (MapIs tripE w m es)) (HK : Hid ((Lit.int .i64 place).wf = true)) (hd0 : decide (term < 1) = false) (hd1 : decide (1048576 < term) = false) (hd2 : decide (now < 0) = false) (hd3 : decide (1099511627776 < now) = false) (hd4 : decide (holder < 0) = false) (hq : decide (now < qu) = false) (HM : Hid (m ≠ none)) (hm : mget (lasting es now) place = none) (hbig : decide (1099511627776 ≤ ep) = true) (hB : Hid (grantL ⟨ep, qu, es⟩ now term place holder = (⟨ep, qu, es⟩, 0, 2))) :
    Calls Try.prog 34 #[lval ep qu m, .int .i64 now, .int .i64 term, .int .i64 place, .int .i64 holder] w (LAsked w (grantL ⟨ep, qu, es⟩ now term place holder)) := by
  have hO : Hid (Only w.heap.size w.heap.size w w) := Lib.hid (Only.refl _ _ _)
  have hv : ∀ x, lval ep qu x = .agg #[.int .i64 ep, .int .i64 qu, .map x] := fun _ => rfl
  have hg : lval ep qu m = .agg #[.int .i64 ep, .int .i64 qu, .map m] := rfl
  have RB0 : Hid (LBox ((w.alloc (.cells #[.int .i64 ep, .int .i64 qu, .map m] 57)).alloc (.cells #[.int .i64 0, .int .i64 0, .map none] 57)) (w.heap.size + 1) 0 0 none) := Lib.hid (LBox.of (top_at _ _ _ (by simp)))
  have SB0 : Hid (LBox ((w.alloc (.cells #[.int .i64 ep, .int .i64 qu, .map m] 57)).alloc (.cells #[.int .i64 0, .int .i64 0, .map none] 57)) w.heap.size ep qu m) := Lib.hid (LBox.of ((low_at _ _ _ (by simp)).trans (top_at _ _ _ (by simp))))
  rw [hg]
  clear hg
  go_enter Try.func34, Try.ntmps34
  have hqn := fun w => Go.Proofs.run_eql_map_nil_sl (P := Try.prog) w 55 _ _ none Try.underlying55
  have hqs : ∀ n w, Sem.run Try.prog (binOp BinOp.eql 55 (Value.map (some n)) (Value.map none)) w = Result.ok (Value.bool false) w := fun n w => Go.Proofs.run_eql_map_nil_sl (P := Try.prog) w 55 _ _ (some n) Try.underlying55
  go_wp2_with (first
    | (go_at_call 55; go_loud (refine (copied_any _ ep qu now m es (h1.out.kept ((hO.out.alloc _).alloc _) (by omega))).mono ?_; rintro e W1 ⟨m', rfl, g1', hn', hb', ho'⟩; obtain ⟨b1, rfl⟩ : ∃ b1, m' = some b1 := (by cases m' with | none => exact absurd (hn'.1 rfl) HM.out | some b1 => exact ⟨b1, rfl⟩); have hb1 := Lib.hid (hb' b1 rfl); rw [hv]; have g1 : Hid (MapIs tripE W1 (some b1) (lasting es now)) := Lib.hid g1'; have ho := Lib.hid ho'; have hl := MapIs.look (w := W1.alloc (.cells #[.int .i64 ep, .int .i64 qu, .map (some b1)] 57)) (g1'.kept ((Only.refl W1.heap.size W1.heap.size W1).alloc _) (by omega)) Try.underlying55 (zero82 _) place HK.out; rw [hm] at hl; simp only [got, tripE, Option.getD_none, Option.isSome_none] at hl; have RB := Lib.hid (RB0.out.kept ho' (by simp) (.inl (by simp))); have SB := Lib.hid (SB0.out.kept ho' (by simp; omega) (.inl (by simp; omega))); have hz : Hid (w.heap.size + 2 ≤ W1.heap.size) := Lib.hid (by have := ho'.size; simp at this; omega); clear g1' hn' hb' ho'; obtain ⟨s0, s1, s2, sf⟩ : LBox ((W1.alloc (.cells #[.int .i64 ep, .int .i64 qu, .map (some b1)] 57)).alloc (.cells #[.int .i64 0, .int .i64 0, .int .i64 0] 82)) w.heap.size ep qu m := (SB.out.low hz.out (by omega)); have hR' : LBox ((W1.alloc (.cells #[.int .i64 ep, .int .i64 qu, .map (some b1)] 57)).alloc (.cells #[.int .i64 0, .int .i64 0, .int .i64 0] 82)) (w.heap.size + 1) 0 0 none := (RB.out.low hz.out (by omega)); obtain ⟨k0, k1, k2⟩ := hR'.keys; obtain ⟨r0, r1, r2, rf⟩ := hR'))
    | fail)
  refine bodyPost_ret (v := .tuple #[lval ep qu m, .int .i64 0, .int .i64 2]) (by simp [results, Try.results34, go_sem, lval, k0, k1, k2]) rfl ?_
  have hs := three_only ((W1.alloc (.cells #[.int .i64 ep, .int .i64 qu, .map (some b1)] 57)).alloc (.cells #[.int .i64 0, .int .i64 0, .int .i64 0] 82)) (w.heap.size + 1) ep qu m
  have oo := (((((hO.out.alloc _).alloc _).then ho.out (by simp; omega)).alloc _).alloc _).fresh (hs.mono (by omega) (Nat.le_refl _))
  rw [hB.out]
  exact ⟨_, rfl, ⟨m, rfl, h1.out.kept oo (by omega)⟩, oo⟩

set_option maxRecDepth 100000 in
set_option maxHeartbeats 1000000 in
theorem grantL_big2 (w : World) (ep qu now term place holder : Int) (es : Trips) (m : Option Nat) (h1 : Hid (MapIs tripE w m es)) (HK : Hid ((Lit.int .i64 place).wf = true)) (hd0 : decide (term < 1) = false) (hd1 : decide (1048576 < term) = false) (hd2 : decide (now < 0) = false) (hd3 : decide (1099511627776 < now) = false) (hd4 : decide (holder < 0) = false) (hq : decide (now < qu) = false) (HM : Hid (m ≠ none)) (x1 x2 : Int) (hm : mget (lasting es now) place = some (holder, x1, x2)) (hbig : decide (1099511627776 ≤ ep) = true) (hB : Hid (grantL ⟨ep, qu, es⟩ now term place holder = (⟨ep, qu, es⟩, 0, 2))) :
    Calls Try.prog 34 #[lval ep qu m, .int .i64 now, .int .i64 term, .int .i64 place, .int .i64 holder] w (LAsked w (grantL ⟨ep, qu, es⟩ now term place holder)) := by
  have hO : Hid (Only w.heap.size w.heap.size w w) := Lib.hid (Only.refl _ _ _)
  have hv : ∀ x, lval ep qu x = .agg #[.int .i64 ep, .int .i64 qu, .map x] := fun _ => rfl
  have hg : lval ep qu m = .agg #[.int .i64 ep, .int .i64 qu, .map m] := rfl
  have RB0 : Hid (LBox ((w.alloc (.cells #[.int .i64 ep, .int .i64 qu, .map m] 57)).alloc (.cells #[.int .i64 0, .int .i64 0, .map none] 57)) (w.heap.size + 1) 0 0 none) := Lib.hid (LBox.of (top_at _ _ _ (by simp)))
  have SB0 : Hid (LBox ((w.alloc (.cells #[.int .i64 ep, .int .i64 qu, .map m] 57)).alloc (.cells #[.int .i64 0, .int .i64 0, .map none] 57)) w.heap.size ep qu m) := Lib.hid (LBox.of ((low_at _ _ _ (by simp)).trans (top_at _ _ _ (by simp))))
  rw [hg]
  clear hg
  go_enter Try.func34, Try.ntmps34
  have hqn := fun w => Go.Proofs.run_eql_map_nil_sl (P := Try.prog) w 55 _ _ none Try.underlying55
  have hqs : ∀ n w, Sem.run Try.prog (binOp BinOp.eql 55 (Value.map (some n)) (Value.map none)) w = Result.ok (Value.bool false) w := fun n w => Go.Proofs.run_eql_map_nil_sl (P := Try.prog) w 55 _ _ (some n) Try.underlying55
  go_wp2_with (first
    | (go_at_call 55; go_loud (refine (copied_any _ ep qu now m es (h1.out.kept ((hO.out.alloc _).alloc _) (by omega))).mono ?_; rintro e W1 ⟨m', rfl, g1', hn', hb', ho'⟩; obtain ⟨b1, rfl⟩ : ∃ b1, m' = some b1 := (by cases m' with | none => exact absurd (hn'.1 rfl) HM.out | some b1 => exact ⟨b1, rfl⟩); have hb1 := Lib.hid (hb' b1 rfl); rw [hv]; have g1 : Hid (MapIs tripE W1 (some b1) (lasting es now)) := Lib.hid g1'; have ho := Lib.hid ho'; have hl := MapIs.look (w := W1.alloc (.cells #[.int .i64 ep, .int .i64 qu, .map (some b1)] 57)) (g1'.kept ((Only.refl W1.heap.size W1.heap.size W1).alloc _) (by omega)) Try.underlying55 (zero82 _) place HK.out; rw [hm] at hl; simp only [got, tripE, Option.getD_some, Option.isSome_some] at hl; have RB := Lib.hid (RB0.out.kept ho' (by simp) (.inl (by simp))); have SB := Lib.hid (SB0.out.kept ho' (by simp; omega) (.inl (by simp; omega))); have hz : Hid (w.heap.size + 2 ≤ W1.heap.size) := Lib.hid (by have := ho'.size; simp at this; omega); clear g1' hn' hb' ho'; obtain ⟨s0, s1, s2, sf⟩ : LBox ((W1.alloc (.cells #[.int .i64 ep, .int .i64 qu, .map (some b1)] 57)).alloc (.cells #[.int .i64 holder, .int .i64 x1, .int .i64 x2] 82)) w.heap.size ep qu m := (SB.out.low hz.out (by omega)); have hR' : LBox ((W1.alloc (.cells #[.int .i64 ep, .int .i64 qu, .map (some b1)] 57)).alloc (.cells #[.int .i64 holder, .int .i64 x1, .int .i64 x2] 82)) (w.heap.size + 1) 0 0 none := (RB.out.low hz.out (by omega)); obtain ⟨k0, k1, k2⟩ := hR'.keys; obtain ⟨r0, r1, r2, rf⟩ := hR'))
    | fail)
  refine bodyPost_ret (v := .tuple #[lval ep qu m, .int .i64 0, .int .i64 2]) (by simp [results, Try.results34, go_sem, lval, k0, k1, k2]) rfl ?_
  have hs := three_only ((W1.alloc (.cells #[.int .i64 ep, .int .i64 qu, .map (some b1)] 57)).alloc (.cells #[.int .i64 holder, .int .i64 x1, .int .i64 x2] 82)) (w.heap.size + 1) ep qu m
  have oo := (((((hO.out.alloc _).alloc _).then ho.out (by simp; omega)).alloc _).alloc _).fresh (hs.mono (by omega) (Nat.le_refl _))
  rw [hB.out]
  exact ⟨_, rfl, ⟨m, rfl, h1.out.kept oo (by omega)⟩, oo⟩

theorem made_three {W : World} {A B : Obj} : MapAt tripE (((W.alloc A).alloc B).alloc (.map #[] 0)) (W.heap.size + 1 + 1) [] := by
  have h := MapAt.made (E := tripE) ((W.alloc A).alloc B)
  simpa using h

set_option maxRecDepth 100000 in
set_option maxHeartbeats 1000000 in
theorem grantL_ok1 (w : World) (ep qu now term place holder : Int) (es : Trips) (m : Option Nat) (h1 : Hid (MapIs tripE w m es)) (HK : Hid ((Lit.int .i64 place).wf = true)) (hd0 : decide (term < 1) = false) (hd1 : decide (1048576 < term) = false) (hd2 : decide (now < 0) = false) (hd3 : decide (1099511627776 < now) = false) (hd4 : decide (holder < 0) = false) (hq : decide (now < qu) = false) (HM : Hid (m ≠ none)) (hm : mget (lasting es now) place = none) (hbig : decide (1099511627776 ≤ ep) = false) (hlo : -9223372036854775808 ≤ ep) (HN : Hid ((lasting es now).length < 1000000)) (hB : Hid (grantL ⟨ep, qu, es⟩ now term place holder = (⟨ep + 1, qu, mput (lasting es now) place (holder, ep + 1, now + term)⟩, ep + 1, 0))) :
    Calls Try.prog 34 #[lval ep qu m, .int .i64 now, .int .i64 term, .int .i64 place, .int .i64 holder] w (LAsked w (grantL ⟨ep, qu, es⟩ now term place holder)) := by
  have hO : Hid (Only w.heap.size w.heap.size w w) := Lib.hid (Only.refl _ _ _)
  have rt0 : 1 ≤ term := by have := of_decide_eq_false hd0; omega
  have rt1 : term ≤ 1048576 := by have := of_decide_eq_false hd1; omega
  have rt2 : 0 ≤ now := by have := of_decide_eq_false hd2; omega
  have rt3 : now ≤ 1099511627776 := by have := of_decide_eq_false hd3; omega
  have rt4 : ep < 1099511627776 := by have := of_decide_eq_false hbig; omega
  have hv : ∀ x, lval ep qu x = .agg #[.int .i64 ep, .int .i64 qu, .map x] := fun _ => rfl
  have hg : lval ep qu m = .agg #[.int .i64 ep, .int .i64 qu, .map m] := rfl
  have RB0 : Hid (LBox ((w.alloc (.cells #[.int .i64 ep, .int .i64 qu, .map m] 57)).alloc (.cells #[.int .i64 0, .int .i64 0, .map none] 57)) (w.heap.size + 1) 0 0 none) := Lib.hid (LBox.of (top_at _ _ _ (by simp)))
  have SB0 : Hid (LBox ((w.alloc (.cells #[.int .i64 ep, .int .i64 qu, .map m] 57)).alloc (.cells #[.int .i64 0, .int .i64 0, .map none] 57)) w.heap.size ep qu m) := Lib.hid (LBox.of ((low_at _ _ _ (by simp)).trans (top_at _ _ _ (by simp))))
  rw [hg]
  clear hg
  go_enter Try.func34, Try.ntmps34
  have hqn := fun w => Go.Proofs.run_eql_map_nil_sl (P := Try.prog) w 55 _ _ none Try.underlying55
  have hqs : ∀ n w, Sem.run Try.prog (binOp BinOp.eql 55 (Value.map (some n)) (Value.map none)) w = Result.ok (Value.bool false) w := fun n w => Go.Proofs.run_eql_map_nil_sl (P := Try.prog) w 55 _ _ (some n) Try.underlying55
  go_wp2_with (first
    | (go_at_call 55; go_loud (refine (copied_any _ ep qu now m es (h1.out.kept ((hO.out.alloc _).alloc _) (by omega))).mono ?_; rintro e W1 ⟨m', rfl, g1', hn', hb', ho'⟩; obtain ⟨b1, rfl⟩ : ∃ b1, m' = some b1 := (by cases m' with | none => exact absurd (hn'.1 rfl) HM.out | some b1 => exact ⟨b1, rfl⟩); have hb1 := Lib.hid (hb' b1 rfl); rw [hv]; have g1 : Hid (MapIs tripE W1 (some b1) (lasting es now)) := Lib.hid g1'; have ho := Lib.hid ho'; have hl := MapIs.look (w := W1.alloc (.cells #[.int .i64 ep, .int .i64 qu, .map (some b1)] 57)) (g1'.kept ((Only.refl W1.heap.size W1.heap.size W1).alloc _) (by omega)) Try.underlying55 (zero82 _) place HK.out; rw [hm] at hl; simp only [got, tripE, Option.getD_none, Option.isSome_none] at hl; have RB := Lib.hid (RB0.out.kept ho' (by simp) (.inl (by simp))); have SB := Lib.hid (SB0.out.kept ho' (by simp; omega) (.inl (by simp; omega))); have hz : Hid (w.heap.size + 2 ≤ W1.heap.size) := Lib.hid (by have := ho'.size; simp at this; omega); clear g1' hn' hb' ho'; obtain ⟨s0, s1, s2, sf⟩ : LBox ((W1.alloc (.cells #[.int .i64 ep, .int .i64 qu, .map (some b1)] 57)).alloc (.cells #[.int .i64 0, .int .i64 0, .int .i64 0] 82)) w.heap.size ep qu m := (SB.out.low hz.out (by omega)); have hR' : LBox ((W1.alloc (.cells #[.int .i64 ep, .int .i64 qu, .map (some b1)] 57)).alloc (.cells #[.int .i64 0, .int .i64 0, .int .i64 0] 82)) (w.heap.size + 1) 0 0 none := (RB.out.low hz.out (by omega)); obtain ⟨k0, k1, k2⟩ := hR'.keys; obtain ⟨r0, r1, r2, rf⟩ := hR'))
    | (at_mapUpdate; go_loud (refine wpList_put _ rfl _ _ _ 55 rfl 82 Try.underlying55 b1 (lasting es now) rfl ((MapAt.kept (show MapAt tripE W1 b1 (lasting es now) from g1.out) ((Only.refl W1.heap.size W1.heap.size W1).alloc _) (.inl (MapAt.lt (show MapAt tripE W1 b1 (lasting es now) from g1.out)))).kept ((Only.refl (W1.heap.size + 1) (W1.heap.size + 1) _).alloc _) (.inl (by have := MapAt.lt (show MapAt tripE W1 b1 (lasting es now) from g1.out); omega))) HN.out place HK.out rfl (holder, ep + 1, now + term) rfl ?_; intro w2 m1' g'; have hb2 : W1.heap.size ≠ b1 := (by have := MapAt.lt (show MapAt tripE W1 b1 (lasting es now) from g1.out); omega); have hb3 : w.heap.size + 2 ≤ b1 := (by have := hb1.out; simp at this; omega); have hz' := hz.out; have HR : LBox w2 (w.heap.size + 1) 0 0 none := ((RB.out.low hz.out (by omega)).kept g' (by simp; omega) (.inl (by omega))); have HU : LBox w2 W1.heap.size (ep + 1) qu (some b1) := ((LBox.of (w := ((W1.alloc (.cells #[.int .i64 (ep + 1), .int .i64 qu, .map (some b1)] 57)).alloc (.cells #[.int .i64 0, .int .i64 0, .int .i64 0] 82))) ((low_at _ _ _ (by simp)).trans (top_at _ _ _ rfl))).kept g' (by simp; omega) (by omega)); have OO : Hid (Only w.heap.size w.heap.size w w2) := Lib.hid ((((((hO.out.alloc _).alloc _).then ho.out (by simp; omega)).alloc _).alloc _).fresh (g'.mono (by omega) (Nat.le_refl _))); have m1 := Lib.hid m1'; have hnn : w.heap.size + 1 ≠ W1.heap.size := (by omega); have hcs : ∀ (W : World) (i j : Nat) (v : Value), (W.setCell ⟨w.heap.size + 1, i, none⟩ v).cell? ⟨W1.heap.size, j, none⟩ = W.cell? ⟨W1.heap.size, j, none⟩ := (fun W i j v => World.cell?_setCell_other _ _ _ _ (fun e => hnn (congrArg Addr.block e))); clear m1' g' k0 k1 k2 r0 r1 r2 rf s0 s1 s2 sf hz'; obtain ⟨k0, k1, k2⟩ := HR.keys; obtain ⟨r0, r1, r2, rf⟩ := HR; obtain ⟨o0, o1, o2, of⟩ := HU))
    | fail)
  go_frame
  go_region
  all_goals go_wp2
  all_goals refine bodyPost_ret (v := .tuple #[lval (ep + 1) qu (some b1), .int .i64 (ep + 1), .int .i64 0]) (by simp [results, Try.results34, go_sem, lval, k0, k1, k2]) rfl ?_
  all_goals have hs := (three_only w2 (w.heap.size + 1) (ep + 1) qu (some b1)).drew
  all_goals have hz' := hz.out
  all_goals rw [hB.out]
  all_goals exact ⟨_, rfl, ⟨some b1, rfl, m1.out.kept hs (by omega)⟩, OO.out.fresh (hs.mono (by omega) (Nat.le_refl _))⟩

set_option maxRecDepth 100000 in
set_option maxHeartbeats 1000000 in
theorem grantL_ok2 (w : World) (ep qu now term place holder : Int) (es : Trips) (m : Option Nat) (h1 : Hid (MapIs tripE w m es)) (HK : Hid ((Lit.int .i64 place).wf = true)) (hd0 : decide (term < 1) = false) (hd1 : decide (1048576 < term) = false) (hd2 : decide (now < 0) = false) (hd3 : decide (1099511627776 < now) = false) (hd4 : decide (holder < 0) = false) (hq : decide (now < qu) = false) (HM : Hid (m ≠ none)) (x1 x2 : Int) (hm : mget (lasting es now) place = some (holder, x1, x2)) (hbig : decide (1099511627776 ≤ ep) = false) (hlo : -9223372036854775808 ≤ ep) (HN : Hid ((lasting es now).length < 1000000)) (hB : Hid (grantL ⟨ep, qu, es⟩ now term place holder = (⟨ep + 1, qu, mput (lasting es now) place (holder, ep + 1, now + term)⟩, ep + 1, 0))) :
    Calls Try.prog 34 #[lval ep qu m, .int .i64 now, .int .i64 term, .int .i64 place, .int .i64 holder] w (LAsked w (grantL ⟨ep, qu, es⟩ now term place holder)) := by
  have hO : Hid (Only w.heap.size w.heap.size w w) := Lib.hid (Only.refl _ _ _)
  have rt0 : 1 ≤ term := by have := of_decide_eq_false hd0; omega
  have rt1 : term ≤ 1048576 := by have := of_decide_eq_false hd1; omega
  have rt2 : 0 ≤ now := by have := of_decide_eq_false hd2; omega
  have rt3 : now ≤ 1099511627776 := by have := of_decide_eq_false hd3; omega
  have rt4 : ep < 1099511627776 := by have := of_decide_eq_false hbig; omega
  have hv : ∀ x, lval ep qu x = .agg #[.int .i64 ep, .int .i64 qu, .map x] := fun _ => rfl
  have hg : lval ep qu m = .agg #[.int .i64 ep, .int .i64 qu, .map m] := rfl
  have RB0 : Hid (LBox ((w.alloc (.cells #[.int .i64 ep, .int .i64 qu, .map m] 57)).alloc (.cells #[.int .i64 0, .int .i64 0, .map none] 57)) (w.heap.size + 1) 0 0 none) := Lib.hid (LBox.of (top_at _ _ _ (by simp)))
  have SB0 : Hid (LBox ((w.alloc (.cells #[.int .i64 ep, .int .i64 qu, .map m] 57)).alloc (.cells #[.int .i64 0, .int .i64 0, .map none] 57)) w.heap.size ep qu m) := Lib.hid (LBox.of ((low_at _ _ _ (by simp)).trans (top_at _ _ _ (by simp))))
  rw [hg]
  clear hg
  go_enter Try.func34, Try.ntmps34
  have hqn := fun w => Go.Proofs.run_eql_map_nil_sl (P := Try.prog) w 55 _ _ none Try.underlying55
  have hqs : ∀ n w, Sem.run Try.prog (binOp BinOp.eql 55 (Value.map (some n)) (Value.map none)) w = Result.ok (Value.bool false) w := fun n w => Go.Proofs.run_eql_map_nil_sl (P := Try.prog) w 55 _ _ (some n) Try.underlying55
  go_wp2_with (first
    | (go_at_call 55; go_loud (refine (copied_any _ ep qu now m es (h1.out.kept ((hO.out.alloc _).alloc _) (by omega))).mono ?_; rintro e W1 ⟨m', rfl, g1', hn', hb', ho'⟩; obtain ⟨b1, rfl⟩ : ∃ b1, m' = some b1 := (by cases m' with | none => exact absurd (hn'.1 rfl) HM.out | some b1 => exact ⟨b1, rfl⟩); have hb1 := Lib.hid (hb' b1 rfl); rw [hv]; have g1 : Hid (MapIs tripE W1 (some b1) (lasting es now)) := Lib.hid g1'; have ho := Lib.hid ho'; have hl := MapIs.look (w := W1.alloc (.cells #[.int .i64 ep, .int .i64 qu, .map (some b1)] 57)) (g1'.kept ((Only.refl W1.heap.size W1.heap.size W1).alloc _) (by omega)) Try.underlying55 (zero82 _) place HK.out; rw [hm] at hl; simp only [got, tripE, Option.getD_some, Option.isSome_some] at hl; have RB := Lib.hid (RB0.out.kept ho' (by simp) (.inl (by simp))); have SB := Lib.hid (SB0.out.kept ho' (by simp; omega) (.inl (by simp; omega))); have hz : Hid (w.heap.size + 2 ≤ W1.heap.size) := Lib.hid (by have := ho'.size; simp at this; omega); clear g1' hn' hb' ho'; obtain ⟨s0, s1, s2, sf⟩ : LBox ((W1.alloc (.cells #[.int .i64 ep, .int .i64 qu, .map (some b1)] 57)).alloc (.cells #[.int .i64 holder, .int .i64 x1, .int .i64 x2] 82)) w.heap.size ep qu m := (SB.out.low hz.out (by omega)); have hR' : LBox ((W1.alloc (.cells #[.int .i64 ep, .int .i64 qu, .map (some b1)] 57)).alloc (.cells #[.int .i64 holder, .int .i64 x1, .int .i64 x2] 82)) (w.heap.size + 1) 0 0 none := (RB.out.low hz.out (by omega)); obtain ⟨k0, k1, k2⟩ := hR'.keys; obtain ⟨r0, r1, r2, rf⟩ := hR'))
    | (at_mapUpdate; go_loud (refine wpList_put _ rfl _ _ _ 55 rfl 82 Try.underlying55 b1 (lasting es now) rfl ((MapAt.kept (show MapAt tripE W1 b1 (lasting es now) from g1.out) ((Only.refl W1.heap.size W1.heap.size W1).alloc _) (.inl (MapAt.lt (show MapAt tripE W1 b1 (lasting es now) from g1.out)))).kept ((Only.refl (W1.heap.size + 1) (W1.heap.size + 1) _).alloc _) (.inl (by have := MapAt.lt (show MapAt tripE W1 b1 (lasting es now) from g1.out); omega))) HN.out place HK.out rfl (holder, ep + 1, now + term) rfl ?_; intro w2 m1' g'; have hb2 : W1.heap.size ≠ b1 := (by have := MapAt.lt (show MapAt tripE W1 b1 (lasting es now) from g1.out); omega); have hb3 : w.heap.size + 2 ≤ b1 := (by have := hb1.out; simp at this; omega); have hz' := hz.out; have HR : LBox w2 (w.heap.size + 1) 0 0 none := ((RB.out.low hz.out (by omega)).kept g' (by simp; omega) (.inl (by omega))); have HU : LBox w2 W1.heap.size (ep + 1) qu (some b1) := ((LBox.of (w := ((W1.alloc (.cells #[.int .i64 (ep + 1), .int .i64 qu, .map (some b1)] 57)).alloc (.cells #[.int .i64 holder, .int .i64 x1, .int .i64 x2] 82))) ((low_at _ _ _ (by simp)).trans (top_at _ _ _ rfl))).kept g' (by simp; omega) (by omega)); have OO : Hid (Only w.heap.size w.heap.size w w2) := Lib.hid ((((((hO.out.alloc _).alloc _).then ho.out (by simp; omega)).alloc _).alloc _).fresh (g'.mono (by omega) (Nat.le_refl _))); have m1 := Lib.hid m1'; have hnn : w.heap.size + 1 ≠ W1.heap.size := (by omega); have hcs : ∀ (W : World) (i j : Nat) (v : Value), (W.setCell ⟨w.heap.size + 1, i, none⟩ v).cell? ⟨W1.heap.size, j, none⟩ = W.cell? ⟨W1.heap.size, j, none⟩ := (fun W i j v => World.cell?_setCell_other _ _ _ _ (fun e => hnn (congrArg Addr.block e))); clear m1' g' k0 k1 k2 r0 r1 r2 rf s0 s1 s2 sf hz'; obtain ⟨k0, k1, k2⟩ := HR.keys; obtain ⟨r0, r1, r2, rf⟩ := HR; obtain ⟨o0, o1, o2, of⟩ := HU))
    | fail)
  go_frame
  go_region
  all_goals go_wp2
  all_goals refine bodyPost_ret (v := .tuple #[lval (ep + 1) qu (some b1), .int .i64 (ep + 1), .int .i64 0]) (by simp [results, Try.results34, go_sem, lval, k0, k1, k2]) rfl ?_
  all_goals have hs := (three_only w2 (w.heap.size + 1) (ep + 1) qu (some b1)).drew
  all_goals have hz' := hz.out
  all_goals rw [hB.out]
  all_goals exact ⟨_, rfl, ⟨some b1, rfl, m1.out.kept hs (by omega)⟩, OO.out.fresh (hs.mono (by omega) (Nat.le_refl _))⟩

set_option maxRecDepth 100000 in
set_option maxHeartbeats 1000000 in
theorem grantL_ok0 (w : World) (ep qu now term place holder : Int) (es : Trips) (m : Option Nat) (h1 : Hid (MapIs tripE w m es)) (HK : Hid ((Lit.int .i64 place).wf = true)) (hd0 : decide (term < 1) = false) (hd1 : decide (1048576 < term) = false) (hd2 : decide (now < 0) = false) (hd3 : decide (1099511627776 < now) = false) (hd4 : decide (holder < 0) = false) (hq : decide (now < qu) = false) (HM : Hid (m = none)) (hm : mget (lasting es now) place = none) (hbig : decide (1099511627776 ≤ ep) = false) (hlo : -9223372036854775808 ≤ ep) (HN : Hid ((lasting es now).length < 1000000)) (hB : Hid (grantL ⟨ep, qu, es⟩ now term place holder = (⟨ep + 1, qu, mput [] place (holder, ep + 1, now + term)⟩, ep + 1, 0))) :
    Calls Try.prog 34 #[lval ep qu m, .int .i64 now, .int .i64 term, .int .i64 place, .int .i64 holder] w (LAsked w (grantL ⟨ep, qu, es⟩ now term place holder)) := by
  have hO : Hid (Only w.heap.size w.heap.size w w) := Lib.hid (Only.refl _ _ _)
  have rt0 : 1 ≤ term := by have := of_decide_eq_false hd0; omega
  have rt1 : term ≤ 1048576 := by have := of_decide_eq_false hd1; omega
  have rt2 : 0 ≤ now := by have := of_decide_eq_false hd2; omega
  have rt3 : now ≤ 1099511627776 := by have := of_decide_eq_false hd3; omega
  have rt4 : ep < 1099511627776 := by have := of_decide_eq_false hbig; omega
  have hv : ∀ x, lval ep qu x = .agg #[.int .i64 ep, .int .i64 qu, .map x] := fun _ => rfl
  have hg : lval ep qu m = .agg #[.int .i64 ep, .int .i64 qu, .map m] := rfl
  have RB0 : Hid (LBox ((w.alloc (.cells #[.int .i64 ep, .int .i64 qu, .map m] 57)).alloc (.cells #[.int .i64 0, .int .i64 0, .map none] 57)) (w.heap.size + 1) 0 0 none) := Lib.hid (LBox.of (top_at _ _ _ (by simp)))
  have SB0 : Hid (LBox ((w.alloc (.cells #[.int .i64 ep, .int .i64 qu, .map m] 57)).alloc (.cells #[.int .i64 0, .int .i64 0, .map none] 57)) w.heap.size ep qu m) := Lib.hid (LBox.of ((low_at _ _ _ (by simp)).trans (top_at _ _ _ (by simp))))
  rw [hg]
  clear hg
  go_enter Try.func34, Try.ntmps34
  have hmm := @run_makeMap Try.prog
  have hqn := fun w => Go.Proofs.run_eql_map_nil_sl (P := Try.prog) w 55 _ _ none Try.underlying55
  have hqs : ∀ n w, Sem.run Try.prog (binOp BinOp.eql 55 (Value.map (some n)) (Value.map none)) w = Result.ok (Value.bool false) w := fun n w => Go.Proofs.run_eql_map_nil_sl (P := Try.prog) w 55 _ _ (some n) Try.underlying55
  go_wp2_with (first
    | (go_at_call 55; go_loud (refine (copied_any _ ep qu now m es (h1.out.kept ((hO.out.alloc _).alloc _) (by omega))).mono ?_; rintro e W1 ⟨m', rfl, g1', hn', hb', ho'⟩; obtain rfl : m' = none := hn'.2 HM.out; rw [hv]; have g1 : Hid (MapIs tripE W1 none (lasting es now)) := Lib.hid g1'; have ho := Lib.hid ho'; have hl := MapIs.look (w := W1.alloc (.cells #[.int .i64 ep, .int .i64 qu, .map none] 57)) (g1'.kept ((Only.refl W1.heap.size W1.heap.size W1).alloc _) (by omega)) Try.underlying55 (zero82 _) place HK.out; rw [hm] at hl; simp only [got, tripE, Option.getD_none, Option.isSome_none] at hl; have RB := Lib.hid (RB0.out.kept ho' (by simp) (.inl (by simp))); have SB := Lib.hid (SB0.out.kept ho' (by simp; omega) (.inl (by simp; omega))); have hz : Hid (w.heap.size + 2 ≤ W1.heap.size) := Lib.hid (by have := ho'.size; simp at this; omega); clear g1' hn' hb' ho'; obtain ⟨s0, s1, s2, sf⟩ : LBox (((W1.alloc (.cells #[.int .i64 ep, .int .i64 qu, .map (some (W1.heap.size + 1 + 1))] 57)).alloc (.cells #[.int .i64 0, .int .i64 0, .int .i64 0] 82)).alloc (.map #[] 0)) w.heap.size ep qu m := (SB.out.low3 hz.out (by omega)); have hR' : LBox (((W1.alloc (.cells #[.int .i64 ep, .int .i64 qu, .map (some (W1.heap.size + 1 + 1))] 57)).alloc (.cells #[.int .i64 0, .int .i64 0, .int .i64 0] 82)).alloc (.map #[] 0)) (w.heap.size + 1) 0 0 none := (RB.out.low3 hz.out (by omega)); obtain ⟨k0, k1, k2⟩ := hR'.keys; obtain ⟨r0, r1, r2, rf⟩ := hR'))
    | (at_mapUpdate; go_loud (refine wpList_put _ rfl _ _ _ 55 rfl 82 Try.underlying55 (W1.heap.size + 1 + 1) [] rfl made_three (by simp) place HK.out rfl (holder, ep + 1, now + term) rfl ?_; intro w2 m1' g'; have hz' := hz.out; have HR : LBox w2 (w.heap.size + 1) 0 0 none := ((RB.out.low3 hz.out (by omega)).kept g' (by simp; omega) (.inl (by omega))); have HU : LBox w2 W1.heap.size (ep + 1) qu (some (W1.heap.size + 1 + 1)) := ((LBox.of (w := (((W1.alloc (.cells #[.int .i64 (ep + 1), .int .i64 qu, .map (some (W1.heap.size + 1 + 1))] 57)).alloc (.cells #[.int .i64 0, .int .i64 0, .int .i64 0] 82)).alloc (.map #[] 0))) ((low_at _ _ _ (by simp; omega)).trans ((low_at _ _ _ (by simp)).trans (top_at _ _ _ rfl)))).kept g' (by simp; omega) (by omega)); have OO : Hid (Only w.heap.size w.heap.size w w2) := Lib.hid (((((((hO.out.alloc _).alloc _).then ho.out (by simp; omega)).alloc _).alloc _).alloc _).fresh (g'.mono (by omega) (Nat.le_refl _))); have m1 := Lib.hid m1'; have hnn : w.heap.size + 1 ≠ W1.heap.size := (by omega); have hcs : ∀ (W : World) (i j : Nat) (v : Value), (W.setCell ⟨w.heap.size + 1, i, none⟩ v).cell? ⟨W1.heap.size, j, none⟩ = W.cell? ⟨W1.heap.size, j, none⟩ := (fun W i j v => World.cell?_setCell_other _ _ _ _ (fun e => hnn (congrArg Addr.block e))); clear m1' g' k0 k1 k2 r0 r1 r2 rf s0 s1 s2 sf hz'; obtain ⟨k0, k1, k2⟩ := HR.keys; obtain ⟨r0, r1, r2, rf⟩ := HR; obtain ⟨o0, o1, o2, of⟩ := HU))
    | fail)
  go_frame
  go_region
  all_goals go_wp2
  all_goals refine bodyPost_ret (v := .tuple #[lval (ep + 1) qu (some (W1.heap.size + 2)), .int .i64 (ep + 1), .int .i64 0]) (by simp [results, Try.results34, go_sem, lval, k0, k1, k2]) rfl ?_
  all_goals have hs := (three_only w2 (w.heap.size + 1) (ep + 1) qu (some (W1.heap.size + 2))).drew
  all_goals have hz' := hz.out
  all_goals rw [hB.out]
  all_goals exact ⟨_, rfl, ⟨some (W1.heap.size + 2), rfl, m1.out.kept hs (by omega)⟩, OO.out.fresh (hs.mono (by omega) (Nat.le_refl _))⟩

end Go.Proofs.Ytefllgpehhlkoaa
