/-
  HolderMargin: moves: a message comes and stays; there is none.
  HolderMargin: moves: a message comes and is gone, or is lost.
-/
import Derived.Test.YtefllgpehhlkoaaMm5
namespace Go.Proofs.Ytefllgpehhlkoaa.Mar
open Go.RowKit Go.Maps Go.Proofs.YtefllgpehhlkoaaW.PrintWords Go.Proofs.YtefllgpehhlkoaaW.PrintLast
set_option linter.unusedVariables false
set_option linter.unusedSimpArgs false

set_option maxRecDepth 100000 in
set_option maxHeartbeats 16000000 in
theorem next2z (w : World) (lo p : Nat) (x : MW) (kind i place : Int) (j : Nat) (pl : Int) (m : Option Nat) (a b : Nat → Option Nat) (v : Value) (term margin : Int) (hk : Wd2 w lo p x m a b v) (hj : 1 ≤ j ∧ j ≤ 3 ∧ i % 3 = (j : Int) - 1) (hpl : place % 2 = pl) (hp : (Lit.int .i64 pl).wf = true) (hwl : x.way.length ≤ 300) (hkd : kind = 2) (hz : x.way.length = 0) :
    Calls Try.prog 51 #[.agg (WC x p m a b v term margin), .agg (mC kind i place)] w (HandsT w lo p x term margin) := by
  obtain ⟨Aw, cw, rfl⟩ := Kd.R_slice hk.way
  obtain ⟨hj1, hj3, hj0⟩ := hj
  have HKW := Lib.hid hk
  have HKP := Lib.hid hp
  have HWl := Lib.hid hwl
  have HLow := Lib.hid hk.full
  have hj4 : j < 4 := by omega
  have hjI : (j : Int) < 4 := by omega
  have hjn : ¬ (j : Int) < 0 := by omega
  obtain ⟨j0, hj00⟩ : ∃ j0 : Nat, j = j0 + 1 := ⟨j - 1, by omega⟩
  have HA3 : Hid (∀ V, Calls Try.prog 64 #[.int .i64 i, .int .i64 3] V fun e w' => e = .returned (.int .i64 (j0 : Int)) ∧ V = w') := Lib.hid (fun V => by
    have h := at_any V i 3 (by omega) (by omega)
    rw [hj0, show (j : Int) - 1 = (j0 : Int) by omega] at h
    exact h)
  have HA2 : Hid (∀ V, Calls Try.prog 64 #[.int .i64 place, .int .i64 2] V fun e w' => e = .returned (.int .i64 pl) ∧ V = w') := Lib.hid (fun V => by
    have h := at_any V place 2 (by omega) (by omega)
    rw [hpl] at h
    exact h)
  have hjj : (1 : Int) + (j0 : Int) = (j : Int) := by omega
  have hu41 := Try.underlying41
  have hu57 := Try.underlying57
  have hu106 := Try.underlying106
  have hu107 := Try.underlying107
  have hu141 := Try.underlying141
  have hz0 : ((x.way.length : Int) == 0) = true := by rw [hz]; rfl
  clear hz
  clear hk hp hj0 hj00 hpl hwl
  go_enter Try.func51, Try.ntmps51
  go_wp2_with (first
  | ((with_reducible refine gate_dst (N := 2) rfl ?_); refine box_event rfl (N := 2) rfl (cs := (WC x p m a b (.slice Aw x.way.length cw) term margin)) (t := 109) ?hr ?_; (case hr => first | (go_simp; done) | (go_simp; rfl)); intro g hg W1 hbox hb; have HE1 : Hid (Ed w W1 g lo p x m a b (.slice Aw x.way.length cw) term margin) := Lib.hid ⟨hbox, HKW.out.kept (Out.of hb), Out.of hb, (by rw [hg]; exact Nat.le_refl _), HLow.out⟩; clear hg hbox hb)
  | ((with_reducible refine gate_dst (N := 3) rfl ?_); refine box_event rfl (N := 3) rfl (cs := mC kind i place) (t := 114) ?hr ?_; (case hr => first | (go_simp; done) | (go_simp; rfl)); intro q hq W2 hbox hb; have HQ2 := Lib.hid (show Blk W2 q 114 (mC kind i place) from hbox); have HE2 := Lib.hid (HE1.out.o (Out.of hb)); have hgq : g ≠ q := (by rw [hq]; exact Nat.ne_of_lt HE1.out.blk.lt); clear hq hbox hb)
  | ((with_reducible refine gate_dst (N := 4) rfl ?_); refine box_event rfl (N := 4) rfl (cs := Z24) (t := 109) ?hr ?_; (case hr => first | (go_simp; done) | (go_simp; rfl)); intro r hr W3 hbox hb; have HR := Lib.hid (show Blk W3 r 109 Z24 from hbox); have HE := Lib.hid (HE2.out.o (Out.of hb)); have HQ := Lib.hid (HQ2.out.o (Out.of hb)); have hgr : g ≠ r := (by rw [hr]; exact Nat.ne_of_lt HE2.out.blk.lt); have hrw : w.heap.size ≤ r := (by rw [hr]; exact HE2.out.out.size); have HNow : Hid (∀ V, Out W3 V → Calls Try.prog 21 #[.pointer (some ⟨p, 0, none⟩), .int .i64 (j : Int)] V fun e w' => e = .returned (.int .i64 (x.c.N j)) ∧ V = w') := Lib.hid (fun V hX => now_some V lo (lo + 4) p 4 x.c (HE.out.wd.kept hX).clk j (by decide) hj4); have q0 : W3.cell? ⟨q, 0, none⟩ = some (.int .i64 kind) := HQ.out.cell 0; have q1 : W3.cell? ⟨q, 1, none⟩ = some (.int .i64 i) := HQ.out.cell 1; have q2 : W3.cell? ⟨q, 2, none⟩ = some (.int .i64 place) := HQ.out.cell 2; (try rw [hkd] at q0); have g20 : W3.cell? ⟨g, 20, none⟩ = some (.slice Aw x.way.length cw) := HE.out.blk.cell 20; clear hr hbox hb HE1 HE2 HQ2)
  | (go_at_call 64; (with_reducible refine (HA3.out _).mono ?_); rintro e5 W5 ⟨rfl, rfl⟩)
  | (go_at_call 64; (with_reducible refine (HA2.out _).mono ?_); rintro e5 W5 ⟨rfl, rfl⟩)
  | ((with_reducible refine gate_dst (N := 79) rfl ?_); refine wpList_load_part _ rfl (.tmp 2) 109 rfl g 0 (WC x p m a b (.slice Aw x.way.length cw) term margin) rfl agg109 size109 109 _ HE.out.blk (fun k u hu => (by rw [Nat.zero_add]; simpa using hu)) ?_)
  | (refine wpList_store_part _ rfl (.tmp 4) (.tmp 79) 109 rfl r 0 (WC x p m a b (.slice Aw x.way.length cw) term margin) rfl rfl size109 HE.out.wd.one 109 _ HR.out (Nat.le_refl _) (WC x p m a b (.slice Aw x.way.length cw) term margin) rfl ?_; intro w9 hbz hfz; have HR9 := Lib.hid hbz; have HE9 := Lib.hid (HE.out.away HR.out (by decide) hrw hgr hfz); clear hbz hfz)
  | fail)
  exact bodyPost_ret (results_blk1 Try.results51 _ _ r (WC x p m a b (.slice Aw x.way.length cw) term margin) rfl agg109 size109 HR9.out) rfl ⟨_, _, _, _, rfl, HE9.out.wd, Out.wide HE9.out.out⟩
set_option maxRecDepth 100000 in
set_option maxHeartbeats 16000000 in
theorem next3z (w : World) (lo p : Nat) (x : MW) (kind i place : Int) (j : Nat) (pl : Int) (m : Option Nat) (a b : Nat → Option Nat) (v : Value) (term margin : Int) (hk : Wd2 w lo p x m a b v) (hj : 1 ≤ j ∧ j ≤ 3 ∧ i % 3 = (j : Int) - 1) (hpl : place % 2 = pl) (hp : (Lit.int .i64 pl).wf = true) (hwl : x.way.length ≤ 300) (hkd : kind = 3) (hz : x.way.length = 0) :
    Calls Try.prog 51 #[.agg (WC x p m a b v term margin), .agg (mC kind i place)] w (HandsT w lo p x term margin) := by
  obtain ⟨Aw, cw, rfl⟩ := Kd.R_slice hk.way
  obtain ⟨hj1, hj3, hj0⟩ := hj
  have HKW := Lib.hid hk
  have HKP := Lib.hid hp
  have HWl := Lib.hid hwl
  have HLow := Lib.hid hk.full
  have hj4 : j < 4 := by omega
  have hjI : (j : Int) < 4 := by omega
  have hjn : ¬ (j : Int) < 0 := by omega
  obtain ⟨j0, hj00⟩ : ∃ j0 : Nat, j = j0 + 1 := ⟨j - 1, by omega⟩
  have HA3 : Hid (∀ V, Calls Try.prog 64 #[.int .i64 i, .int .i64 3] V fun e w' => e = .returned (.int .i64 (j0 : Int)) ∧ V = w') := Lib.hid (fun V => by
    have h := at_any V i 3 (by omega) (by omega)
    rw [hj0, show (j : Int) - 1 = (j0 : Int) by omega] at h
    exact h)
  have HA2 : Hid (∀ V, Calls Try.prog 64 #[.int .i64 place, .int .i64 2] V fun e w' => e = .returned (.int .i64 pl) ∧ V = w') := Lib.hid (fun V => by
    have h := at_any V place 2 (by omega) (by omega)
    rw [hpl] at h
    exact h)
  have hjj : (1 : Int) + (j0 : Int) = (j : Int) := by omega
  have hu41 := Try.underlying41
  have hu57 := Try.underlying57
  have hu106 := Try.underlying106
  have hu107 := Try.underlying107
  have hu141 := Try.underlying141
  have hz0 : ((x.way.length : Int) == 0) = true := by rw [hz]; rfl
  clear hz
  clear hk hp hj0 hj00 hpl hwl
  go_enter Try.func51, Try.ntmps51
  go_wp2_with (first
  | ((with_reducible refine gate_dst (N := 2) rfl ?_); refine box_event rfl (N := 2) rfl (cs := (WC x p m a b (.slice Aw x.way.length cw) term margin)) (t := 109) ?hr ?_; (case hr => first | (go_simp; done) | (go_simp; rfl)); intro g hg W1 hbox hb; have HE1 : Hid (Ed w W1 g lo p x m a b (.slice Aw x.way.length cw) term margin) := Lib.hid ⟨hbox, HKW.out.kept (Out.of hb), Out.of hb, (by rw [hg]; exact Nat.le_refl _), HLow.out⟩; clear hg hbox hb)
  | ((with_reducible refine gate_dst (N := 3) rfl ?_); refine box_event rfl (N := 3) rfl (cs := mC kind i place) (t := 114) ?hr ?_; (case hr => first | (go_simp; done) | (go_simp; rfl)); intro q hq W2 hbox hb; have HQ2 := Lib.hid (show Blk W2 q 114 (mC kind i place) from hbox); have HE2 := Lib.hid (HE1.out.o (Out.of hb)); have hgq : g ≠ q := (by rw [hq]; exact Nat.ne_of_lt HE1.out.blk.lt); clear hq hbox hb)
  | ((with_reducible refine gate_dst (N := 4) rfl ?_); refine box_event rfl (N := 4) rfl (cs := Z24) (t := 109) ?hr ?_; (case hr => first | (go_simp; done) | (go_simp; rfl)); intro r hr W3 hbox hb; have HR := Lib.hid (show Blk W3 r 109 Z24 from hbox); have HE := Lib.hid (HE2.out.o (Out.of hb)); have HQ := Lib.hid (HQ2.out.o (Out.of hb)); have hgr : g ≠ r := (by rw [hr]; exact Nat.ne_of_lt HE2.out.blk.lt); have hrw : w.heap.size ≤ r := (by rw [hr]; exact HE2.out.out.size); have HNow : Hid (∀ V, Out W3 V → Calls Try.prog 21 #[.pointer (some ⟨p, 0, none⟩), .int .i64 (j : Int)] V fun e w' => e = .returned (.int .i64 (x.c.N j)) ∧ V = w') := Lib.hid (fun V hX => now_some V lo (lo + 4) p 4 x.c (HE.out.wd.kept hX).clk j (by decide) hj4); have q0 : W3.cell? ⟨q, 0, none⟩ = some (.int .i64 kind) := HQ.out.cell 0; have q1 : W3.cell? ⟨q, 1, none⟩ = some (.int .i64 i) := HQ.out.cell 1; have q2 : W3.cell? ⟨q, 2, none⟩ = some (.int .i64 place) := HQ.out.cell 2; (try rw [hkd] at q0); have g20 : W3.cell? ⟨g, 20, none⟩ = some (.slice Aw x.way.length cw) := HE.out.blk.cell 20; clear hr hbox hb HE1 HE2 HQ2)
  | (go_at_call 64; (with_reducible refine (HA3.out _).mono ?_); rintro e5 W5 ⟨rfl, rfl⟩)
  | (go_at_call 64; (with_reducible refine (HA2.out _).mono ?_); rintro e5 W5 ⟨rfl, rfl⟩)
  | ((with_reducible refine gate_dst (N := 79) rfl ?_); refine wpList_load_part _ rfl (.tmp 2) 109 rfl g 0 (WC x p m a b (.slice Aw x.way.length cw) term margin) rfl agg109 size109 109 _ HE.out.blk (fun k u hu => (by rw [Nat.zero_add]; simpa using hu)) ?_)
  | (refine wpList_store_part _ rfl (.tmp 4) (.tmp 79) 109 rfl r 0 (WC x p m a b (.slice Aw x.way.length cw) term margin) rfl rfl size109 HE.out.wd.one 109 _ HR.out (Nat.le_refl _) (WC x p m a b (.slice Aw x.way.length cw) term margin) rfl ?_; intro w9 hbz hfz; have HR9 := Lib.hid hbz; have HE9 := Lib.hid (HE.out.away HR.out (by decide) hrw hgr hfz); clear hbz hfz)
  | fail)
  exact bodyPost_ret (results_blk1 Try.results51 _ _ r (WC x p m a b (.slice Aw x.way.length cw) term margin) rfl agg109 size109 HR9.out) rfl ⟨_, _, _, _, rfl, HE9.out.wd, Out.wide HE9.out.out⟩
set_option maxRecDepth 100000 in
set_option maxHeartbeats 16000000 in
theorem next4z (w : World) (lo p : Nat) (x : MW) (kind i place : Int) (j : Nat) (pl : Int) (m : Option Nat) (a b : Nat → Option Nat) (v : Value) (term margin : Int) (hk : Wd2 w lo p x m a b v) (hj : 1 ≤ j ∧ j ≤ 3 ∧ i % 3 = (j : Int) - 1) (hpl : place % 2 = pl) (hp : (Lit.int .i64 pl).wf = true) (hwl : x.way.length ≤ 300) (hkd : kind = 4) (hz : x.way.length = 0) :
    Calls Try.prog 51 #[.agg (WC x p m a b v term margin), .agg (mC kind i place)] w (HandsT w lo p x term margin) := by
  obtain ⟨Aw, cw, rfl⟩ := Kd.R_slice hk.way
  obtain ⟨hj1, hj3, hj0⟩ := hj
  have HKW := Lib.hid hk
  have HKP := Lib.hid hp
  have HWl := Lib.hid hwl
  have HLow := Lib.hid hk.full
  have hj4 : j < 4 := by omega
  have hjI : (j : Int) < 4 := by omega
  have hjn : ¬ (j : Int) < 0 := by omega
  obtain ⟨j0, hj00⟩ : ∃ j0 : Nat, j = j0 + 1 := ⟨j - 1, by omega⟩
  have HA3 : Hid (∀ V, Calls Try.prog 64 #[.int .i64 i, .int .i64 3] V fun e w' => e = .returned (.int .i64 (j0 : Int)) ∧ V = w') := Lib.hid (fun V => by
    have h := at_any V i 3 (by omega) (by omega)
    rw [hj0, show (j : Int) - 1 = (j0 : Int) by omega] at h
    exact h)
  have HA2 : Hid (∀ V, Calls Try.prog 64 #[.int .i64 place, .int .i64 2] V fun e w' => e = .returned (.int .i64 pl) ∧ V = w') := Lib.hid (fun V => by
    have h := at_any V place 2 (by omega) (by omega)
    rw [hpl] at h
    exact h)
  have hjj : (1 : Int) + (j0 : Int) = (j : Int) := by omega
  have hu41 := Try.underlying41
  have hu57 := Try.underlying57
  have hu106 := Try.underlying106
  have hu107 := Try.underlying107
  have hu141 := Try.underlying141
  have hz0 : ((x.way.length : Int) == 0) = true := by rw [hz]; rfl
  clear hz
  clear hk hp hj0 hj00 hpl hwl
  go_enter Try.func51, Try.ntmps51
  go_wp2_with (first
  | ((with_reducible refine gate_dst (N := 2) rfl ?_); refine box_event rfl (N := 2) rfl (cs := (WC x p m a b (.slice Aw x.way.length cw) term margin)) (t := 109) ?hr ?_; (case hr => first | (go_simp; done) | (go_simp; rfl)); intro g hg W1 hbox hb; have HE1 : Hid (Ed w W1 g lo p x m a b (.slice Aw x.way.length cw) term margin) := Lib.hid ⟨hbox, HKW.out.kept (Out.of hb), Out.of hb, (by rw [hg]; exact Nat.le_refl _), HLow.out⟩; clear hg hbox hb)
  | ((with_reducible refine gate_dst (N := 3) rfl ?_); refine box_event rfl (N := 3) rfl (cs := mC kind i place) (t := 114) ?hr ?_; (case hr => first | (go_simp; done) | (go_simp; rfl)); intro q hq W2 hbox hb; have HQ2 := Lib.hid (show Blk W2 q 114 (mC kind i place) from hbox); have HE2 := Lib.hid (HE1.out.o (Out.of hb)); have hgq : g ≠ q := (by rw [hq]; exact Nat.ne_of_lt HE1.out.blk.lt); clear hq hbox hb)
  | ((with_reducible refine gate_dst (N := 4) rfl ?_); refine box_event rfl (N := 4) rfl (cs := Z24) (t := 109) ?hr ?_; (case hr => first | (go_simp; done) | (go_simp; rfl)); intro r hr W3 hbox hb; have HR := Lib.hid (show Blk W3 r 109 Z24 from hbox); have HE := Lib.hid (HE2.out.o (Out.of hb)); have HQ := Lib.hid (HQ2.out.o (Out.of hb)); have hgr : g ≠ r := (by rw [hr]; exact Nat.ne_of_lt HE2.out.blk.lt); have hrw : w.heap.size ≤ r := (by rw [hr]; exact HE2.out.out.size); have HNow : Hid (∀ V, Out W3 V → Calls Try.prog 21 #[.pointer (some ⟨p, 0, none⟩), .int .i64 (j : Int)] V fun e w' => e = .returned (.int .i64 (x.c.N j)) ∧ V = w') := Lib.hid (fun V hX => now_some V lo (lo + 4) p 4 x.c (HE.out.wd.kept hX).clk j (by decide) hj4); have q0 : W3.cell? ⟨q, 0, none⟩ = some (.int .i64 kind) := HQ.out.cell 0; have q1 : W3.cell? ⟨q, 1, none⟩ = some (.int .i64 i) := HQ.out.cell 1; have q2 : W3.cell? ⟨q, 2, none⟩ = some (.int .i64 place) := HQ.out.cell 2; (try rw [hkd] at q0); have g20 : W3.cell? ⟨g, 20, none⟩ = some (.slice Aw x.way.length cw) := HE.out.blk.cell 20; clear hr hbox hb HE1 HE2 HQ2)
  | (go_at_call 64; (with_reducible refine (HA3.out _).mono ?_); rintro e5 W5 ⟨rfl, rfl⟩)
  | (go_at_call 64; (with_reducible refine (HA2.out _).mono ?_); rintro e5 W5 ⟨rfl, rfl⟩)
  | ((with_reducible refine gate_dst (N := 79) rfl ?_); refine wpList_load_part _ rfl (.tmp 2) 109 rfl g 0 (WC x p m a b (.slice Aw x.way.length cw) term margin) rfl agg109 size109 109 _ HE.out.blk (fun k u hu => (by rw [Nat.zero_add]; simpa using hu)) ?_)
  | (refine wpList_store_part _ rfl (.tmp 4) (.tmp 79) 109 rfl r 0 (WC x p m a b (.slice Aw x.way.length cw) term margin) rfl rfl size109 HE.out.wd.one 109 _ HR.out (Nat.le_refl _) (WC x p m a b (.slice Aw x.way.length cw) term margin) rfl ?_; intro w9 hbz hfz; have HR9 := Lib.hid hbz; have HE9 := Lib.hid (HE.out.away HR.out (by decide) hrw hgr hfz); clear hbz hfz)
  | fail)
  exact bodyPost_ret (results_blk1 Try.results51 _ _ r (WC x p m a b (.slice Aw x.way.length cw) term margin) rfl agg109 size109 HR9.out) rfl ⟨_, _, _, _, rfl, HE9.out.wd, Out.wide HE9.out.out⟩
set_option maxRecDepth 100000 in
set_option maxHeartbeats 16000000 in
theorem next3A (w : World) (lo p : Nat) (x : MW) (kind i place : Int) (j : Nat) (pl : Int) (m : Option Nat) (a b : Nat → Option Nat) (v : Value) (term margin : Int) (hk : Wd2 w lo p x m a b v) (hj : 1 ≤ j ∧ j ≤ 3 ∧ i % 3 = (j : Int) - 1) (hpl : place % 2 = pl) (hp : (Lit.int .i64 pl).wf = true) (hwl : x.way.length ≤ 300) (hkd : kind = 3) (jx : Nat) (hjx : jx < x.way.length) (hjm : i % (x.way.length : Int) = (jx : Int)) (hok : (1 ≤ x.way[jx].holder ∧ x.way[jx].holder ≤ 3) ∧ (Lit.int .i64 x.way[jx].place).wf = true) (hep : -9223372036854775808 ≤ x.s.epoch) (hsz : (lasting x.s.hs (x.c.N 0)).length < 1000000) (hhas : ∀ j, (x.hs j).has.length < 1000000) (hc : x.way.length < 200) :
    Calls Try.prog 51 #[.agg (WC x p m a b v term margin), .agg (mC kind i place)] w (HandsT w lo p (Go.Proofs.Ytefllgpehhlkoaa.come term margin x x.way[jx]) term margin) := by
  obtain ⟨Aw, cw, rfl⟩ := Kd.R_slice hk.way
  obtain ⟨hj1, hj3, hj0⟩ := hj
  have HKW := Lib.hid hk
  have HKP := Lib.hid hp
  have HWl := Lib.hid hwl
  have HLow := Lib.hid hk.full
  have hj4 : j < 4 := by omega
  have hjI : (j : Int) < 4 := by omega
  have hjn : ¬ (j : Int) < 0 := by omega
  obtain ⟨j0, hj00⟩ : ∃ j0 : Nat, j = j0 + 1 := ⟨j - 1, by omega⟩
  have HA3 : Hid (∀ V, Calls Try.prog 64 #[.int .i64 i, .int .i64 3] V fun e w' => e = .returned (.int .i64 (j0 : Int)) ∧ V = w') := Lib.hid (fun V => by
    have h := at_any V i 3 (by omega) (by omega)
    rw [hj0, show (j : Int) - 1 = (j0 : Int) by omega] at h
    exact h)
  have HA2 : Hid (∀ V, Calls Try.prog 64 #[.int .i64 place, .int .i64 2] V fun e w' => e = .returned (.int .i64 pl) ∧ V = w') := Lib.hid (fun V => by
    have h := at_any V place 2 (by omega) (by omega)
    rw [hpl] at h
    exact h)
  have hjj : (1 : Int) + (j0 : Int) = (j : Int) := by omega
  have hu41 := Try.underlying41
  have hu57 := Try.underlying57
  have hu106 := Try.underlying106
  have hu107 := Try.underlying107
  have hu141 := Try.underlying141
  obtain ⟨gw, cw', cur, hv, hlc, hbw, hcur⟩ := KW_blk hk.way (by omega)
  injection hv with hA hll hcc
  subst hA hcc
  obtain ⟨mm, hmm⟩ : ∃ mm, mm = x.way[jx] := ⟨_, rfl⟩
  have hcur' := hcur jx hjx
  rw [← hmm] at hcur'
  obtain ⟨yy, hyy⟩ : ∃ yy, yy = Go.Proofs.Ytefllgpehhlkoaa.come term margin x mm := ⟨_, rfl⟩
  have HCo : Hid (∀ V mA aA bA vA, Wd2 V lo p x mA aA bA vA → Calls Try.prog 65 #[.agg (WC x p mA aA bA vA term margin), .agg (wC mm)] V (Hands V lo p yy term margin)) := Lib.hid (fun V mA aA bA vA h => by
    rw [hyy]
    exact come_any V lo p x mm mA aA bA vA term margin h (by rw [hmm]; exact hok.1) (by rw [hmm]; exact hok.2) hep hsz hhas (by omega))
  rw [← hmm, ← hyy]
  have HCur := Lib.hid hcur'
  have HBw := Lib.hid (show Blk w gw 141 cur from hbw)
  have HMm := Lib.hid hmm
  have HA5 : Hid (∀ V, Calls Try.prog 64 #[.int .i64 i, .int .i64 (x.way.length : Int)] V fun e w' => e = .returned (.int .i64 (jx : Int)) ∧ V = w') := Lib.hid (fun V => by
    have h := at_any V i (x.way.length : Int) (by omega) (by omega)
    rw [hjm] at h
    exact h)
  have hz0 : ((x.way.length : Int) == 0) = false := beq_eq_false_iff_ne.2 (by omega)
  have hjxI : (jx : Int) < (x.way.length : Int) := by omega
  have HJx := Lib.hid hjx
  have HLc := Lib.hid hlc
  clear hok hep hsz hhas hyy hcur hcur' hbw hmm hjm hlc
  have hlen : (x.way.length : Int) < 200 := by omega
  clear hc
  clear hk hp hj0 hj00 hpl hwl
  go_enter Try.func51, Try.ntmps51
  go_wp2_with (first
  | ((with_reducible refine gate_dst (N := 2) rfl ?_); refine box_event rfl (N := 2) rfl (cs := (WC x p m a b (.slice (some ⟨gw, 0, none⟩) x.way.length cw) term margin)) (t := 109) ?hr ?_; (case hr => first | (go_simp; done) | (go_simp; rfl)); intro g hg W1 hbox hb; have HE1 : Hid (Ed w W1 g lo p x m a b (.slice (some ⟨gw, 0, none⟩) x.way.length cw) term margin) := Lib.hid ⟨hbox, HKW.out.kept (Out.of hb), Out.of hb, (by rw [hg]; exact Nat.le_refl _), HLow.out⟩; clear hg hbox hb)
  | ((with_reducible refine gate_dst (N := 3) rfl ?_); refine box_event rfl (N := 3) rfl (cs := mC kind i place) (t := 114) ?hr ?_; (case hr => first | (go_simp; done) | (go_simp; rfl)); intro q hq W2 hbox hb; have HQ2 := Lib.hid (show Blk W2 q 114 (mC kind i place) from hbox); have HE2 := Lib.hid (HE1.out.o (Out.of hb)); have hgq : g ≠ q := (by rw [hq]; exact Nat.ne_of_lt HE1.out.blk.lt); clear hq hbox hb)
  | ((with_reducible refine gate_dst (N := 4) rfl ?_); refine box_event rfl (N := 4) rfl (cs := Z24) (t := 109) ?hr ?_; (case hr => first | (go_simp; done) | (go_simp; rfl)); intro r hr W3 hbox hb; have HR := Lib.hid (show Blk W3 r 109 Z24 from hbox); have HE := Lib.hid (HE2.out.o (Out.of hb)); have HQ := Lib.hid (HQ2.out.o (Out.of hb)); have hgr : g ≠ r := (by rw [hr]; exact Nat.ne_of_lt HE2.out.blk.lt); have hrw : w.heap.size ≤ r := (by rw [hr]; exact HE2.out.out.size); have HNow : Hid (∀ V, Out W3 V → Calls Try.prog 21 #[.pointer (some ⟨p, 0, none⟩), .int .i64 (j : Int)] V fun e w' => e = .returned (.int .i64 (x.c.N j)) ∧ V = w') := Lib.hid (fun V hX => now_some V lo (lo + 4) p 4 x.c (HE.out.wd.kept hX).clk j (by decide) hj4); have q0 : W3.cell? ⟨q, 0, none⟩ = some (.int .i64 kind) := HQ.out.cell 0; have q1 : W3.cell? ⟨q, 1, none⟩ = some (.int .i64 i) := HQ.out.cell 1; have q2 : W3.cell? ⟨q, 2, none⟩ = some (.int .i64 place) := HQ.out.cell 2; (try rw [hkd] at q0); have g20 : W3.cell? ⟨g, 20, none⟩ = some (.slice (some ⟨gw, 0, none⟩) x.way.length cw) := HE.out.blk.cell 20; clear hr hbox hb HE1 HE2 HQ2)
  | (go_at_call 64; (with_reducible refine (HA3.out _).mono ?_); rintro e5 W5 ⟨rfl, rfl⟩)
  | (go_at_call 64; (with_reducible refine (HA2.out _).mono ?_); rintro e5 W5 ⟨rfl, rfl⟩)
  | (go_at_call 64; (with_reducible refine (HA5.out _).mono ?_); rintro e5 W5 ⟨rfl, rfl⟩)
  | ((with_reducible refine gate_dst (N := 90) rfl ?_); refine wpList_load_part _ rfl (.tmp 89) 141 rfl gw (jx * 5) (wC mm) (by simp [Act.eval]) agg141 size141 141 _ (HBw.out.o HE.out.out) HCur.out ?_)
  | ((with_reducible refine gate_dst (N := 11) rfl ?_); refine box_event rfl (N := 11) rfl (cs := wC ⟨0, 0, 0, 0, 0⟩) (t := 141) ?hr ?_; (case hr => first | (go_simp; done) | (go_simp; rfl)); intro h hh W10 hbox hb; have HZ10 := Lib.hid (show Blk W10 h 141 _ from hbox); have hge : W3.heap.size ≤ h := (by rw [hh]; exact Nat.le_refl _); have hO10 := Lib.hid (Out.of hb); clear hh hbox hb)
  | (refine wpList_store_part _ rfl (.tmp 11) (.tmp 90) 141 rfl h 0 (wC mm) rfl rfl size141 rfl 141 _ HZ10.out (Nat.le_refl _) (wC mm) rfl ?_; intro w11 hbz hfz; have HY11 := Lib.hid hbz; have hO11 := Lib.hid (Out.far hO10.out hfz hge); have HE11 := Lib.hid (HE.out.o hO11.out); have HR11 := Lib.hid (HR.out.o hO11.out); have HQ11 := Lib.hid (HQ.out.o hO11.out); have q0b : w11.cell? ⟨q, 0, none⟩ = some (.int .i64 3) := (by rw [← hkd]; exact HQ11.out.cell 0); have g20b : w11.cell? ⟨g, 20, none⟩ = some (.slice (some ⟨gw, 0, none⟩) x.way.length cw) := HE11.out.blk.cell 20; have hgh : g ≠ h := (Nat.ne_of_lt (Nat.lt_of_lt_of_le HE.out.blk.lt hge)); have hqh : q ≠ h := (Nat.ne_of_lt (Nat.lt_of_lt_of_le HQ.out.lt hge)); clear hbz hfz)
  | ((with_reducible refine gate_dst (N := 116) rfl ?_); refine wpList_load_part _ rfl (.tmp 2) 109 rfl g 0 (WC x p m a b (.slice (some ⟨gw, 0, none⟩) x.way.length cw) term margin) rfl agg109 size109 109 _ HE11.out.blk (fun k u hu => (by rw [Nat.zero_add]; simpa using hu)) ?_)
  | ((with_reducible refine gate_dst (N := 117) rfl ?_); refine wpList_load_part _ rfl (.tmp 11) 141 rfl h 0 (wC mm) rfl agg141 size141 141 _ HY11.out (fun k u hu => (by rw [Nat.zero_add]; simpa using hu)) ?_)
  | (go_at_call 65; (with_reducible refine (HCo.out _ _ _ _ _ HE11.out.wd).mono ?_); rintro e6 W12 ⟨m1, a1, b1, v1, rfl, hwd, hO⟩; have HWd := Lib.hid hwd; have hO12 := Lib.hid hO; have HG12 := Lib.hid (HE11.out.blk.o hO); have HR12 := Lib.hid (HR11.out.o hO); clear hwd hO)
  | (refine wpList_store_part _ rfl (.tmp 2) (.tmp 118) 109 rfl g 0 (WC yy p m1 a1 b1 v1 term margin) rfl rfl size109 HWd.out.one 109 _ HG12.out (Nat.le_refl _) (WC yy p m1 a1 b1 v1 term margin) rfl ?_; intro w13 hbz hfz; have HE13 := Lib.hid (HE11.out.come HWd.out hO12.out hbz hfz); have HR13 := Lib.hid (HR12.out.away hfz hgr.symm); clear hbz hfz)
  | ((with_reducible refine gate_dst (N := 177) rfl ?_); refine wpList_load_part _ rfl (.tmp 2) 109 rfl g 0 (WC yy p m1 a1 b1 v1 term margin) rfl agg109 size109 109 _ HE13.out.blk (fun k u hu => (by rw [Nat.zero_add]; simpa using hu)) ?_)
  | (refine wpList_store_part _ rfl (.tmp 4) (.tmp 177) 109 rfl r 0 (WC yy p m1 a1 b1 v1 term margin) rfl rfl size109 HE13.out.wd.one 109 _ HR13.out (Nat.le_refl _) (WC yy p m1 a1 b1 v1 term margin) rfl ?_; intro w9 hbz hfz; have HR9 := Lib.hid hbz; have HE9 := Lib.hid (HE13.out.away HR13.out (by decide) hrw hgr hfz); clear hbz hfz)
  | fail)
  exact bodyPost_ret (results_blk1 Try.results51 _ _ r (WC yy p m1 a1 b1 v1 term margin) rfl agg109 size109 HR9.out) rfl ⟨_, _, _, _, rfl, HE9.out.wd, Out.wide HE9.out.out⟩
set_option maxRecDepth 100000 in
set_option maxHeartbeats 16000000 in
theorem next3B (w : World) (lo p : Nat) (x : MW) (kind i place : Int) (j : Nat) (pl : Int) (m : Option Nat) (a b : Nat → Option Nat) (v : Value) (term margin : Int) (hk : Wd2 w lo p x m a b v) (hj : 1 ≤ j ∧ j ≤ 3 ∧ i % 3 = (j : Int) - 1) (hpl : place % 2 = pl) (hp : (Lit.int .i64 pl).wf = true) (hwl : x.way.length ≤ 300) (hkd : kind = 3) (jx : Nat) (hjx : jx < x.way.length) (hjm : i % (x.way.length : Int) = (jx : Int)) (hc : ¬ x.way.length < 200) :
    Calls Try.prog 51 #[.agg (WC x p m a b v term margin), .agg (mC kind i place)] w (HandsT w lo p x term margin) := by
  obtain ⟨Aw, cw, rfl⟩ := Kd.R_slice hk.way
  obtain ⟨hj1, hj3, hj0⟩ := hj
  have HKW := Lib.hid hk
  have HKP := Lib.hid hp
  have HWl := Lib.hid hwl
  have HLow := Lib.hid hk.full
  have hj4 : j < 4 := by omega
  have hjI : (j : Int) < 4 := by omega
  have hjn : ¬ (j : Int) < 0 := by omega
  obtain ⟨j0, hj00⟩ : ∃ j0 : Nat, j = j0 + 1 := ⟨j - 1, by omega⟩
  have HA3 : Hid (∀ V, Calls Try.prog 64 #[.int .i64 i, .int .i64 3] V fun e w' => e = .returned (.int .i64 (j0 : Int)) ∧ V = w') := Lib.hid (fun V => by
    have h := at_any V i 3 (by omega) (by omega)
    rw [hj0, show (j : Int) - 1 = (j0 : Int) by omega] at h
    exact h)
  have HA2 : Hid (∀ V, Calls Try.prog 64 #[.int .i64 place, .int .i64 2] V fun e w' => e = .returned (.int .i64 pl) ∧ V = w') := Lib.hid (fun V => by
    have h := at_any V place 2 (by omega) (by omega)
    rw [hpl] at h
    exact h)
  have hjj : (1 : Int) + (j0 : Int) = (j : Int) := by omega
  have hu41 := Try.underlying41
  have hu57 := Try.underlying57
  have hu106 := Try.underlying106
  have hu107 := Try.underlying107
  have hu141 := Try.underlying141
  obtain ⟨gw, cw', cur, hv, hlc, hbw, hcur⟩ := KW_blk hk.way (by omega)
  injection hv with hA hll hcc
  subst hA hcc
  obtain ⟨mm, hmm⟩ : ∃ mm, mm = x.way[jx] := ⟨_, rfl⟩
  have hcur' := hcur jx hjx
  rw [← hmm] at hcur'
  have HCur := Lib.hid hcur'
  have HBw := Lib.hid (show Blk w gw 141 cur from hbw)
  have HMm := Lib.hid hmm
  have HA5 : Hid (∀ V, Calls Try.prog 64 #[.int .i64 i, .int .i64 (x.way.length : Int)] V fun e w' => e = .returned (.int .i64 (jx : Int)) ∧ V = w') := Lib.hid (fun V => by
    have h := at_any V i (x.way.length : Int) (by omega) (by omega)
    rw [hjm] at h
    exact h)
  have hz0 : ((x.way.length : Int) == 0) = false := beq_eq_false_iff_ne.2 (by omega)
  have hjxI : (jx : Int) < (x.way.length : Int) := by omega
  have HJx := Lib.hid hjx
  have HLc := Lib.hid hlc
  clear hcur hcur' hbw hmm hjm hlc
  have hlen : ¬ (x.way.length : Int) < 200 := by omega
  clear hc
  clear hk hp hj0 hj00 hpl hwl
  go_enter Try.func51, Try.ntmps51
  go_wp2_with (first
  | ((with_reducible refine gate_dst (N := 2) rfl ?_); refine box_event rfl (N := 2) rfl (cs := (WC x p m a b (.slice (some ⟨gw, 0, none⟩) x.way.length cw) term margin)) (t := 109) ?hr ?_; (case hr => first | (go_simp; done) | (go_simp; rfl)); intro g hg W1 hbox hb; have HE1 : Hid (Ed w W1 g lo p x m a b (.slice (some ⟨gw, 0, none⟩) x.way.length cw) term margin) := Lib.hid ⟨hbox, HKW.out.kept (Out.of hb), Out.of hb, (by rw [hg]; exact Nat.le_refl _), HLow.out⟩; clear hg hbox hb)
  | ((with_reducible refine gate_dst (N := 3) rfl ?_); refine box_event rfl (N := 3) rfl (cs := mC kind i place) (t := 114) ?hr ?_; (case hr => first | (go_simp; done) | (go_simp; rfl)); intro q hq W2 hbox hb; have HQ2 := Lib.hid (show Blk W2 q 114 (mC kind i place) from hbox); have HE2 := Lib.hid (HE1.out.o (Out.of hb)); have hgq : g ≠ q := (by rw [hq]; exact Nat.ne_of_lt HE1.out.blk.lt); clear hq hbox hb)
  | ((with_reducible refine gate_dst (N := 4) rfl ?_); refine box_event rfl (N := 4) rfl (cs := Z24) (t := 109) ?hr ?_; (case hr => first | (go_simp; done) | (go_simp; rfl)); intro r hr W3 hbox hb; have HR := Lib.hid (show Blk W3 r 109 Z24 from hbox); have HE := Lib.hid (HE2.out.o (Out.of hb)); have HQ := Lib.hid (HQ2.out.o (Out.of hb)); have hgr : g ≠ r := (by rw [hr]; exact Nat.ne_of_lt HE2.out.blk.lt); have hrw : w.heap.size ≤ r := (by rw [hr]; exact HE2.out.out.size); have HNow : Hid (∀ V, Out W3 V → Calls Try.prog 21 #[.pointer (some ⟨p, 0, none⟩), .int .i64 (j : Int)] V fun e w' => e = .returned (.int .i64 (x.c.N j)) ∧ V = w') := Lib.hid (fun V hX => now_some V lo (lo + 4) p 4 x.c (HE.out.wd.kept hX).clk j (by decide) hj4); have q0 : W3.cell? ⟨q, 0, none⟩ = some (.int .i64 kind) := HQ.out.cell 0; have q1 : W3.cell? ⟨q, 1, none⟩ = some (.int .i64 i) := HQ.out.cell 1; have q2 : W3.cell? ⟨q, 2, none⟩ = some (.int .i64 place) := HQ.out.cell 2; (try rw [hkd] at q0); have g20 : W3.cell? ⟨g, 20, none⟩ = some (.slice (some ⟨gw, 0, none⟩) x.way.length cw) := HE.out.blk.cell 20; clear hr hbox hb HE1 HE2 HQ2)
  | (go_at_call 64; (with_reducible refine (HA3.out _).mono ?_); rintro e5 W5 ⟨rfl, rfl⟩)
  | (go_at_call 64; (with_reducible refine (HA2.out _).mono ?_); rintro e5 W5 ⟨rfl, rfl⟩)
  | (go_at_call 64; (with_reducible refine (HA5.out _).mono ?_); rintro e5 W5 ⟨rfl, rfl⟩)
  | ((with_reducible refine gate_dst (N := 90) rfl ?_); refine wpList_load_part _ rfl (.tmp 89) 141 rfl gw (jx * 5) (wC mm) (by simp [Act.eval]) agg141 size141 141 _ (HBw.out.o HE.out.out) HCur.out ?_)
  | ((with_reducible refine gate_dst (N := 11) rfl ?_); refine box_event rfl (N := 11) rfl (cs := wC ⟨0, 0, 0, 0, 0⟩) (t := 141) ?hr ?_; (case hr => first | (go_simp; done) | (go_simp; rfl)); intro h hh W10 hbox hb; have HZ10 := Lib.hid (show Blk W10 h 141 _ from hbox); have hge : W3.heap.size ≤ h := (by rw [hh]; exact Nat.le_refl _); have hO10 := Lib.hid (Out.of hb); clear hh hbox hb)
  | (refine wpList_store_part _ rfl (.tmp 11) (.tmp 90) 141 rfl h 0 (wC mm) rfl rfl size141 rfl 141 _ HZ10.out (Nat.le_refl _) (wC mm) rfl ?_; intro w11 hbz hfz; have HY11 := Lib.hid hbz; have hO11 := Lib.hid (Out.far hO10.out hfz hge); have HE11 := Lib.hid (HE.out.o hO11.out); have HR11 := Lib.hid (HR.out.o hO11.out); have HQ11 := Lib.hid (HQ.out.o hO11.out); have q0b : w11.cell? ⟨q, 0, none⟩ = some (.int .i64 3) := (by rw [← hkd]; exact HQ11.out.cell 0); have g20b : w11.cell? ⟨g, 20, none⟩ = some (.slice (some ⟨gw, 0, none⟩) x.way.length cw) := HE11.out.blk.cell 20; have hgh : g ≠ h := (Nat.ne_of_lt (Nat.lt_of_lt_of_le HE.out.blk.lt hge)); have hqh : q ≠ h := (Nat.ne_of_lt (Nat.lt_of_lt_of_le HQ.out.lt hge)); clear hbz hfz)
  | ((with_reducible refine gate_dst (N := 177) rfl ?_); refine wpList_load_part _ rfl (.tmp 2) 109 rfl g 0 (WC x p m a b (.slice (some ⟨gw, 0, none⟩) x.way.length cw) term margin) rfl agg109 size109 109 _ HE11.out.blk (fun k u hu => (by rw [Nat.zero_add]; simpa using hu)) ?_)
  | (refine wpList_store_part _ rfl (.tmp 4) (.tmp 177) 109 rfl r 0 (WC x p m a b (.slice (some ⟨gw, 0, none⟩) x.way.length cw) term margin) rfl rfl size109 HE11.out.wd.one 109 _ HR11.out (Nat.le_refl _) (WC x p m a b (.slice (some ⟨gw, 0, none⟩) x.way.length cw) term margin) rfl ?_; intro w9 hbz hfz; have HR9 := Lib.hid hbz; have HE9 := Lib.hid (HE11.out.away HR11.out (by decide) hrw hgr hfz); clear hbz hfz)
  | fail)
  exact bodyPost_ret (results_blk1 Try.results51 _ _ r (WC x p m a b (.slice (some ⟨gw, 0, none⟩) x.way.length cw) term margin) rfl agg109 size109 HR9.out) rfl ⟨_, _, _, _, rfl, HE9.out.wd, Out.wide HE9.out.out⟩
end Go.Proofs.Ytefllgpehhlkoaa.Mar
namespace Go.Proofs.Ytefllgpehhlkoaa.Mar
open Go.RowKit Go.Maps Go.Proofs.YtefllgpehhlkoaaW.PrintWords Go.Proofs.YtefllgpehhlkoaaW.PrintLast
set_option linter.unusedVariables false
set_option linter.unusedSimpArgs false

theorem exec_slice_hi {w : World} {o : Oper} {a : Act} {b n c i : Nat} (s l : Operand) (ho : o.op = .slice 107 s none (some l) none) (hs : a.eval s = .slice (some ⟨b, 0, none⟩) n c) (hl : a.eval l = .int .i64 (i : Int)) (hi : i ≤ n) (hnc : n ≤ c) : (execOp a.eval o).run Try.prog w = .ok (.value (.slice (some ⟨b, 0, none⟩) i c)) w := by
  have h := (run_sliceAt_slice (P := Try.prog) (w := w) 107 (.slice (some ⟨b, 0, none⟩) n c) none (some (.int .i64 (i : Int))) none elem107).trans (slice_hi b n c i hi hnc w)
  unfold execOp
  simp [ho, hs, hl, h]
theorem exec_slice_lo {w : World} {o : Oper} {a : Act} {b n c i : Nat} (s l : Operand) (ho : o.op = .slice 107 s (some l) none none) (hs : a.eval s = .slice (some ⟨b, 0, none⟩) n c) (hl : a.eval l = .int .i64 ((i : Int) + 1)) (hi : i < n) (hnc : n ≤ c) : (execOp a.eval o).run Try.prog w = .ok (.value (.slice (some (loA b c i)) (n - (i + 1)) (c - (i + 1)))) w := by
  have h := (run_sliceAt_slice (P := Try.prog) (w := w) 107 (.slice (some ⟨b, 0, none⟩) n c) (some (.int .i64 ((i : Int) + 1))) none none elem107).trans (slice_lo b n c i hi hnc w)
  unfold execOp
  simp [ho, hs, hl, h]
set_option maxRecDepth 100000 in
set_option maxHeartbeats 16000000 in
theorem next4 (w : World) (lo p : Nat) (x : MW) (kind i place : Int) (j : Nat) (pl : Int) (m : Option Nat) (a b : Nat → Option Nat) (v : Value) (term margin : Int) (hk : Wd2 w lo p x m a b v) (hj : 1 ≤ j ∧ j ≤ 3 ∧ i % 3 = (j : Int) - 1) (hpl : place % 2 = pl) (hp : (Lit.int .i64 pl).wf = true) (hwl : x.way.length ≤ 300) (hkd : kind = 4) (jx : Nat) (hjx : jx < x.way.length) (hjm : i % (x.way.length : Int) = (jx : Int)) :
    Calls Try.prog 51 #[.agg (WC x p m a b v term margin), .agg (mC kind i place)] w (HandsT w lo p { x with way := x.way.eraseIdx jx } term margin) := by
  obtain ⟨Aw, cw, rfl⟩ := Kd.R_slice hk.way
  obtain ⟨hj1, hj3, hj0⟩ := hj
  have HKW := Lib.hid hk
  have HKP := Lib.hid hp
  have HWl := Lib.hid hwl
  have HLow := Lib.hid hk.full
  have hj4 : j < 4 := by omega
  have hjI : (j : Int) < 4 := by omega
  have hjn : ¬ (j : Int) < 0 := by omega
  obtain ⟨j0, hj00⟩ : ∃ j0 : Nat, j = j0 + 1 := ⟨j - 1, by omega⟩
  have HA3 : Hid (∀ V, Calls Try.prog 64 #[.int .i64 i, .int .i64 3] V fun e w' => e = .returned (.int .i64 (j0 : Int)) ∧ V = w') := Lib.hid (fun V => by
    have h := at_any V i 3 (by omega) (by omega)
    rw [hj0, show (j : Int) - 1 = (j0 : Int) by omega] at h
    exact h)
  have HA2 : Hid (∀ V, Calls Try.prog 64 #[.int .i64 place, .int .i64 2] V fun e w' => e = .returned (.int .i64 pl) ∧ V = w') := Lib.hid (fun V => by
    have h := at_any V place 2 (by omega) (by omega)
    rw [hpl] at h
    exact h)
  have hjj : (1 : Int) + (j0 : Int) = (j : Int) := by omega
  have hu41 := Try.underlying41
  have hu57 := Try.underlying57
  have hu106 := Try.underlying106
  have hu107 := Try.underlying107
  have hu141 := Try.underlying141
  obtain ⟨gw, cw', cur, hv, hlc, hbw, hcur⟩ := KW_blk hk.way (by omega)
  injection hv with hA hll hcc
  subst hA hcc
  obtain ⟨mm, hmm⟩ : ∃ mm, mm = x.way[jx] := ⟨_, rfl⟩
  have hcur' := hcur jx hjx
  rw [← hmm] at hcur'
  have HCur := Lib.hid hcur'
  have HBw := Lib.hid (show Blk w gw 141 cur from hbw)
  have HMm := Lib.hid hmm
  have HA5 : Hid (∀ V, Calls Try.prog 64 #[.int .i64 i, .int .i64 (x.way.length : Int)] V fun e w' => e = .returned (.int .i64 (jx : Int)) ∧ V = w') := Lib.hid (fun V => by
    have h := at_any V i (x.way.length : Int) (by omega) (by omega)
    rw [hjm] at h
    exact h)
  have hz0 : ((x.way.length : Int) == 0) = false := beq_eq_false_iff_ne.2 (by omega)
  have hjxI : (jx : Int) < (x.way.length : Int) := by omega
  have HJx := Lib.hid hjx
  have HLc := Lib.hid hlc
  clear hcur hcur' hbw hmm hjm hlc
  have hjx300 : (jx : Int) < 300 := by omega
  have hw1 : IntKind.i64.wrap ((jx : Int) + 1) = (jx : Int) + 1 := IntWalk.i64_in _ (by omega)
  obtain ⟨l3, hl3⟩ : ∃ l3, x.way.take jx ++ x.way.drop (jx + 1) = l3 := ⟨_, rfl⟩
  have he : x.way.eraseIdx jx = l3 := by rw [← hl3, List.eraseIdx_eq_take_drop_succ]
  have hl3n : l3.length + 1 = x.way.length := by rw [← he, List.length_eraseIdx, if_pos HJx.out]; omega
  have HL3 := Lib.hid hl3
  rw [he]
  clear hl3 he
  clear hk hp hj0 hj00 hpl hwl
  go_enter Try.func51, Try.ntmps51
  go_wp2_with (first
  | ((with_reducible refine gate_dst (N := 2) rfl ?_); refine box_event rfl (N := 2) rfl (cs := (WC x p m a b (.slice (some ⟨gw, 0, none⟩) x.way.length cw) term margin)) (t := 109) ?hr ?_; (case hr => first | (go_simp; done) | (go_simp; rfl)); intro g hg W1 hbox hb; have HE1 : Hid (Ed w W1 g lo p x m a b (.slice (some ⟨gw, 0, none⟩) x.way.length cw) term margin) := Lib.hid ⟨hbox, HKW.out.kept (Out.of hb), Out.of hb, (by rw [hg]; exact Nat.le_refl _), HLow.out⟩; clear hg hbox hb)
  | ((with_reducible refine gate_dst (N := 3) rfl ?_); refine box_event rfl (N := 3) rfl (cs := mC kind i place) (t := 114) ?hr ?_; (case hr => first | (go_simp; done) | (go_simp; rfl)); intro q hq W2 hbox hb; have HQ2 := Lib.hid (show Blk W2 q 114 (mC kind i place) from hbox); have HE2 := Lib.hid (HE1.out.o (Out.of hb)); have hgq : g ≠ q := (by rw [hq]; exact Nat.ne_of_lt HE1.out.blk.lt); clear hq hbox hb)
  | ((with_reducible refine gate_dst (N := 4) rfl ?_); refine box_event rfl (N := 4) rfl (cs := Z24) (t := 109) ?hr ?_; (case hr => first | (go_simp; done) | (go_simp; rfl)); intro r hr W3 hbox hb; have HR := Lib.hid (show Blk W3 r 109 Z24 from hbox); have HE := Lib.hid (HE2.out.o (Out.of hb)); have HQ := Lib.hid (HQ2.out.o (Out.of hb)); have hgr : g ≠ r := (by rw [hr]; exact Nat.ne_of_lt HE2.out.blk.lt); have hrw : w.heap.size ≤ r := (by rw [hr]; exact HE2.out.out.size); have HNow : Hid (∀ V, Out W3 V → Calls Try.prog 21 #[.pointer (some ⟨p, 0, none⟩), .int .i64 (j : Int)] V fun e w' => e = .returned (.int .i64 (x.c.N j)) ∧ V = w') := Lib.hid (fun V hX => now_some V lo (lo + 4) p 4 x.c (HE.out.wd.kept hX).clk j (by decide) hj4); have q0 : W3.cell? ⟨q, 0, none⟩ = some (.int .i64 kind) := HQ.out.cell 0; have q1 : W3.cell? ⟨q, 1, none⟩ = some (.int .i64 i) := HQ.out.cell 1; have q2 : W3.cell? ⟨q, 2, none⟩ = some (.int .i64 place) := HQ.out.cell 2; (try rw [hkd] at q0); have g20 : W3.cell? ⟨g, 20, none⟩ = some (.slice (some ⟨gw, 0, none⟩) x.way.length cw) := HE.out.blk.cell 20; clear hr hbox hb HE1 HE2 HQ2)
  | (go_at_call 64; (with_reducible refine (HA3.out _).mono ?_); rintro e5 W5 ⟨rfl, rfl⟩)
  | (go_at_call 64; (with_reducible refine (HA2.out _).mono ?_); rintro e5 W5 ⟨rfl, rfl⟩)
  | (go_at_call 64; (with_reducible refine (HA5.out _).mono ?_); rintro e5 W5 ⟨rfl, rfl⟩)
  | ((with_reducible refine gate_dst (N := 90) rfl ?_); refine wpList_load_part _ rfl (.tmp 89) 141 rfl gw (jx * 5) (wC mm) (by simp [Act.eval]) agg141 size141 141 _ (HBw.out.o HE.out.out) HCur.out ?_)
  | ((with_reducible refine gate_dst (N := 11) rfl ?_); refine box_event rfl (N := 11) rfl (cs := wC ⟨0, 0, 0, 0, 0⟩) (t := 141) ?hr ?_; (case hr => first | (go_simp; done) | (go_simp; rfl)); intro h hh W10 hbox hb; have HZ10 := Lib.hid (show Blk W10 h 141 _ from hbox); have hge : W3.heap.size ≤ h := (by rw [hh]; exact Nat.le_refl _); have hO10 := Lib.hid (Out.of hb); clear hh hbox hb)
  | (refine wpList_store_part _ rfl (.tmp 11) (.tmp 90) 141 rfl h 0 (wC mm) rfl rfl size141 rfl 141 _ HZ10.out (Nat.le_refl _) (wC mm) rfl ?_; intro w11 hbz hfz; have HY11 := Lib.hid hbz; have hO11 := Lib.hid (Out.far hO10.out hfz hge); have HE11 := Lib.hid (HE.out.o hO11.out); have HR11 := Lib.hid (HR.out.o hO11.out); have HQ11 := Lib.hid (HQ.out.o hO11.out); have q0b : w11.cell? ⟨q, 0, none⟩ = some (.int .i64 4) := (by rw [← hkd]; exact HQ11.out.cell 0); have g20b : w11.cell? ⟨g, 20, none⟩ = some (.slice (some ⟨gw, 0, none⟩) x.way.length cw) := HE11.out.blk.cell 20; have hgh : g ≠ h := (Nat.ne_of_lt (Nat.lt_of_lt_of_le HE.out.blk.lt hge)); have hqh : q ≠ h := (Nat.ne_of_lt (Nat.lt_of_lt_of_le HQ.out.lt hge)); clear hbz hfz)
  | fail)
  have HQ12 : Hid (Blk w11 q 114 (mC 4 i place)) := Lib.hid (by rw [← hkd]; exact HQ11.out)
  refine start_ (n := 14) (S := fun W' => Blk W' g 109 (WC x p m a b (.slice (some ⟨gw, 0, none⟩) x.way.length cw) term margin) ∧ Blk W' q 114 (mC 4 i place) ∧ Out w11 W') (ds := [13]) #[false, false, false, false, false, false, false, false, false, false, false, false, false, false] (by kernel_rfl) rfl rfl (⟨HE11.out.blk.drew, HQ12.out.drew, (Only.refl _ _ _).drew⟩) (fun hHeld => ?_)
  refine pure_ (i := 1) (N := some 95) (v := ?_) (a' := ?_) #[false, true, false, false, false, false, false, false, false, false, false, false, false, false] rfl rfl (by kernel_rfl) (fun _ _ _ h => h) (Or.inl ⟨by rfl, ?_⟩) ?_ ?_
  rotate_left
  · intro w'
    go_simp
    (try with_reducible rfl)
  rotate_left
  · simp only [Act.put, List.setIfInBounds_toArray, List.set_cons_zero, List.set_cons_succ]
    rfl
  refine pure_ (i := 3) (N := some 97) (v := ?_) (a' := ?_) #[false, true, false, true, false, false, false, false, false, false, false, false, false, false] rfl rfl (by kernel_rfl) (fun _ _ _ h => h) (Or.inl ⟨by rfl, ?_⟩) ?_ ?_
  rotate_left
  · intro w'
    go_simp
    (try with_reducible rfl)
  rotate_left
  · simp only [Act.put, List.setIfInBounds_toArray, List.set_cons_zero, List.set_cons_succ]
    rfl
  refine pure_ (i := 6) (N := some 100) (v := ?_) (a' := ?_) #[false, true, false, true, false, false, true, false, false, false, false, false, false, false] rfl rfl (by kernel_rfl) (fun _ _ _ h => h) (Or.inl ⟨by rfl, ?_⟩) ?_ ?_
  rotate_left
  · intro w'
    go_simp
    (try with_reducible rfl)
  rotate_left
  · simp only [Act.put, List.setIfInBounds_toArray, List.set_cons_zero, List.set_cons_succ]
    rfl
  refine pure_ (i := 8) (N := some 102) (v := ?_) (a' := ?_) #[false, true, false, true, false, false, true, false, true, false, false, false, false, false] rfl rfl (by kernel_rfl) (fun _ _ _ h => h) (Or.inl ⟨by rfl, ?_⟩) ?_ ?_
  rotate_left
  · intro w'
    go_simp
    (try with_reducible rfl)
  rotate_left
  · simp only [Act.put, List.setIfInBounds_toArray, List.set_cons_zero, List.set_cons_succ]
    rfl
  refine pure_ (i := 9) (N := some 103) (v := ?_) (a' := ?_) #[false, true, false, true, false, false, true, false, true, true, false, false, false, false] rfl rfl (by kernel_rfl) (fun _ _ _ h => h) (Or.inl ⟨by rfl, ?_⟩) ?_ ?_
  rotate_left
  · intro w'
    go_simp
    (try with_reducible rfl)
  rotate_left
  · simp only [Act.put, List.setIfInBounds_toArray, List.set_cons_zero, List.set_cons_succ]
    rfl
  refine take_ (i := 2) (N := some 96) (v := ?_) (a' := ?_) #[false, true, true, true, false, false, true, false, true, true, false, false, false, false] rfl rfl (by kernel_rfl) (fun _ _ _ h => h) (Or.inl ⟨by rfl, ?_⟩) hHeld ?_ ?_
  rotate_left
  · intro w' s0
    obtain ⟨t1, t2, t3⟩ := s0
    have c0 : w'.cell? ⟨g, 20, none⟩ = some (.slice (some ⟨gw, 0, none⟩) x.way.length cw) := t1.cell 20
    go_simp
    (try with_reducible rfl)
  rotate_left
  · simp only [Act.put, List.setIfInBounds_toArray, List.set_cons_zero, List.set_cons_succ]
    rfl
  refine pure_ (i := 4) (N := some 98) (v := ?_) (a' := ?_) #[false, true, true, true, true, false, true, false, true, true, false, false, false, false] rfl rfl (by kernel_rfl) (fun _ _ _ h => h) (Or.inl ⟨by rfl, ?_⟩) ?_ ?_
  rotate_left
  · intro w'
    refine exec_slice_hi (b := gw) (n := x.way.length) (c := cw) (i := jx) (.tmp 96) (.tmp 97) ?_ ?_ ?_ (Nat.le_of_lt HJx.out) HLc.out
    · rfl
    · rfl
    · rfl
  rotate_left
  · simp only [Act.put, List.setIfInBounds_toArray, List.set_cons_zero, List.set_cons_succ]
    rfl
  refine take_ (i := 7) (N := some 101) (v := ?_) (a' := ?_) #[false, true, true, true, true, false, true, true, true, true, false, false, false, false] rfl rfl (by kernel_rfl) (fun _ _ _ h => h) (Or.inl ⟨by rfl, ?_⟩) hHeld ?_ ?_
  rotate_left
  · intro w' s0
    obtain ⟨t1, t2, t3⟩ := s0
    have c0 : w'.cell? ⟨g, 20, none⟩ = some (.slice (some ⟨gw, 0, none⟩) x.way.length cw) := t1.cell 20
    go_simp
    (try with_reducible rfl)
  rotate_left
  · simp only [Act.put, List.setIfInBounds_toArray, List.set_cons_zero, List.set_cons_succ]
    rfl
  refine pure_ (i := 10) (N := some 104) (v := ?_) (a' := ?_) #[false, true, true, true, true, false, true, true, true, true, true, false, false, false] rfl rfl (by kernel_rfl) (fun _ _ _ h => h) (Or.inl ⟨by rfl, ?_⟩) ?_ ?_
  rotate_left
  · intro w'
    refine exec_slice_lo (b := gw) (n := x.way.length) (c := cw) (i := jx) (.tmp 101) (.tmp 103) ?_ ?_ ?_ HJx.out HLc.out
    · rfl
    · rfl
    · rfl
  rotate_left
  · simp only [Act.put, List.setIfInBounds_toArray, List.set_cons_zero, List.set_cons_succ]
    rfl
  refine one_ (i := 0) (N := some 94) (oi := ⟨some 94, Go.Op.buildSlice 107 0 #[], 107, "outright.go:90", #[], none⟩) #[true, true, true, true, true, false, true, true, true, true, true, false, false, false] rfl rfl (by kernel_rfl) (by decide) (fun K hK => ?_)
  refine step_lit0 (by rfl) rfl ?_
  intro g0 hg0 W12 hR0 hO
  have H0 := Lib.hid (Kd.R_lower hR0 hHeld.2.2.size)
  clear hR0 hg0
  refine hK.out _ _ (⟨hHeld.1.o hO, hHeld.2.1.o hO, hHeld.2.2.thens hO⟩) (fun hHeld => ?_)
  clear hK K
  try simp only [Act.put, List.setIfInBounds_toArray, List.set_cons_zero, List.set_cons_succ]
  refine one_ (i := 5) (N := some 99) (oi := ⟨some 99, Go.Op.call ⟨Go.Callee.builtin Go.Builtin.append, #[Go.Operand.tmp 94, Go.Operand.tmp 98], #[107, 107]⟩, 107, "outright.go:90", #[⟨0, Go.Ground.data⟩, ⟨4, Go.Ground.data⟩], none⟩) #[true, true, true, true, true, true, true, true, true, true, true, false, false, false] rfl rfl (by kernel_rfl) (by decide) (fun K hK => ?_)
  refine step_app (V0 := w11) (by rfl) (.tmp 94) (.tmp 98) rfl _ [] (x.way.take jx) (x.way.take jx) rfl (some ⟨gw, 0, none⟩) jx cw rfl rfl H0.out (C_hi (KW_C (KW_below HE11.out.wd.way hHeld.2.2)).2.2 HJx.out) hHeld.2.2 (by have := HWl.out; have := HJx.out; simp; omega) ?_
  intro A1 c1 w13 hR1 hO1 hg1
  have H3 := Lib.hid hR1
  clear hR1 hg1
  refine hK.out _ _ (⟨HE11.out.blk.o hO1, HQ12.out.o hO1, hO1⟩) (fun hHeld => ?_)
  clear hK K
  try simp only [Act.put, List.setIfInBounds_toArray, List.set_cons_zero, List.set_cons_succ]
  refine one_ (i := 11) (N := some 105) (oi := ⟨some 105, Go.Op.call ⟨Go.Callee.builtin Go.Builtin.append, #[Go.Operand.tmp 99, Go.Operand.tmp 104], #[107, 107]⟩, 107, "outright.go:90", #[⟨5, Go.Ground.data⟩, ⟨10, Go.Ground.data⟩, ⟨5, Go.Ground.chain⟩], none⟩) #[true, true, true, true, true, true, true, true, true, true, true, true, false, false] rfl rfl (by kernel_rfl) (by decide) (fun K hK => ?_)
  refine step_app (V0 := w11) (by rfl) (.tmp 99) (.tmp 104) rfl _ (x.way.take jx) (x.way.drop (jx + 1)) l3 HL3.out (some (loA gw cw jx)) (x.way.length - (jx + 1)) (cw - (jx + 1)) rfl rfl H3.out (C_lo (KW_C (KW_below HE11.out.wd.way hHeld.2.2)).2.2 HJx.out HLc.out) hHeld.2.2 (by have := HWl.out; have := HJx.out; rw [List.length_take]; omega) ?_
  intro A2 c2 w15 hR2 hO2 hg2
  have H6 := Lib.hid hR2
  clear hR2 hg2
  refine hK.out _ _ (⟨HE11.out.blk.o hO2, HQ12.out.o hO2, hO2⟩) (fun hHeld => ?_)
  clear hK K
  try simp only [Act.put, List.setIfInBounds_toArray, List.set_cons_zero, List.set_cons_succ]
  refine pure_ (i := 12) (N := some 106) (v := ?_) (a' := ?_) #[true, true, true, true, true, true, true, true, true, true, true, true, true, false] rfl rfl (by kernel_rfl) (fun _ _ _ h => h) (Or.inl ⟨by rfl, ?_⟩) ?_ ?_
  rotate_left
  · intro w'
    go_simp
    (try with_reducible rfl)
  rotate_left
  · simp only [Act.put, List.setIfInBounds_toArray, List.set_cons_zero, List.set_cons_succ]
    rfl
  refine last_ (i := 13) (N := none) (oi := ⟨none, Go.Op.store 107 (Go.Operand.tmp 106) (Go.Operand.tmp 105), 0, "outright.go:90", #[⟨12, Go.Ground.data⟩, ⟨11, Go.Ground.data⟩, ⟨11, Go.Ground.chain⟩, ⟨0, Go.Ground.phase⟩, ⟨1, Go.Ground.phase⟩, ⟨2, Go.Ground.phase⟩, ⟨3, Go.Ground.phase⟩, ⟨4, Go.Ground.phase⟩, ⟨5, Go.Ground.phase⟩, ⟨6, Go.Ground.phase⟩, ⟨7, Go.Ground.phase⟩, ⟨8, Go.Ground.phase⟩, ⟨9, Go.Ground.phase⟩, ⟨10, Go.Ground.phase⟩, ⟨11, Go.Ground.phase⟩], none⟩) #[true, true, true, true, true, true, true, true, true, true, true, true, true, true] rfl rfl (by kernel_rfl) (by decide) (fun K hK => ?_)
  refine step_store_one _ (by rfl) rfl (.tmp 106) (.tmp 105) 107 rfl g 20 (.slice A2 l3.length c2) rfl rfl size107 rfl rfl 109 _ hHeld.1 (by show 21 ≤ 24; omega) (WC { x with way := l3 } p m a b (.slice A2 l3.length c2) term margin) rfl ?_
  intro w8 hb8 hfr8
  have HE8 := Lib.hid ((HE11.out.o hHeld.2.2).way2 (Kd.R_lower H6.out (Nat.le_trans HLow.out HE11.out.out.size)) hb8 hfr8)
  have HR8 := Lib.hid ((HR11.out.o hHeld.2.2).away hfr8 hgr.symm)
  have HY8 := Lib.hid ((HY11.out.o hHeld.2.2).away hfr8 hgh.symm)
  have HQ8 := Lib.hid (hHeld.2.1.away hfr8 hgq.symm)
  have q0c : w8.cell? ⟨q, 0, none⟩ = some (.int .i64 4) := HQ8.out.cell 0
  have g20c : w8.cell? ⟨g, 20, none⟩ = some (.slice A2 l3.length c2) := HE8.out.blk.cell 20
  clear hb8 hfr8 hHeld
  refine hK.out _ _ ?_
  clear hK K
  try simp only [Act.put, List.setIfInBounds_toArray, List.set_cons_zero, List.set_cons_succ]
  refine done_ (by kernel_rfl) ?_
  go_wp2_with (first
    | ((with_reducible refine gate_dst (N := 177) rfl ?_); refine wpList_load_part _ rfl (.tmp 2) 109 rfl g 0 (WC { x with way := l3 } p m a b (.slice A2 l3.length c2) term margin) rfl agg109 size109 109 _ HE8.out.blk (fun k u hu => (by rw [Nat.zero_add]; simpa using hu)) ?_)
    | (refine wpList_store_part _ rfl (.tmp 4) (.tmp 177) 109 rfl r 0 (WC { x with way := l3 } p m a b (.slice A2 l3.length c2) term margin) rfl rfl size109 HE8.out.wd.one 109 _ HR8.out (Nat.le_refl _) (WC { x with way := l3 } p m a b (.slice A2 l3.length c2) term margin) rfl ?_; intro w9 hbz hfz; have HR9 := Lib.hid hbz; have HE9 := Lib.hid (HE8.out.away HR8.out (by decide) hrw hgr hfz); clear hbz hfz)
    | fail)
  exact bodyPost_ret (results_blk1 Try.results51 _ _ r (WC { x with way := l3 } p m a b (.slice A2 l3.length c2) term margin) rfl agg109 size109 HR9.out) rfl ⟨_, _, _, _, rfl, HE9.out.wd, Out.wide HE9.out.out⟩
set_option maxRecDepth 100000 in
set_option maxHeartbeats 16000000 in
theorem next2B (w : World) (lo p : Nat) (x : MW) (kind i place : Int) (j : Nat) (pl : Int) (m : Option Nat) (a b : Nat → Option Nat) (v : Value) (term margin : Int) (hk : Wd2 w lo p x m a b v) (hj : 1 ≤ j ∧ j ≤ 3 ∧ i % 3 = (j : Int) - 1) (hpl : place % 2 = pl) (hp : (Lit.int .i64 pl).wf = true) (hwl : x.way.length ≤ 300) (hkd : kind = 2) (jx : Nat) (hjx : jx < x.way.length) (hjm : i % (x.way.length : Int) = (jx : Int)) (hc : ¬ x.way.length - 1 < 200) :
    Calls Try.prog 51 #[.agg (WC x p m a b v term margin), .agg (mC kind i place)] w (HandsT w lo p { x with way := x.way.eraseIdx jx } term margin) := by
  obtain ⟨Aw, cw, rfl⟩ := Kd.R_slice hk.way
  obtain ⟨hj1, hj3, hj0⟩ := hj
  have HKW := Lib.hid hk
  have HKP := Lib.hid hp
  have HWl := Lib.hid hwl
  have HLow := Lib.hid hk.full
  have hj4 : j < 4 := by omega
  have hjI : (j : Int) < 4 := by omega
  have hjn : ¬ (j : Int) < 0 := by omega
  obtain ⟨j0, hj00⟩ : ∃ j0 : Nat, j = j0 + 1 := ⟨j - 1, by omega⟩
  have HA3 : Hid (∀ V, Calls Try.prog 64 #[.int .i64 i, .int .i64 3] V fun e w' => e = .returned (.int .i64 (j0 : Int)) ∧ V = w') := Lib.hid (fun V => by
    have h := at_any V i 3 (by omega) (by omega)
    rw [hj0, show (j : Int) - 1 = (j0 : Int) by omega] at h
    exact h)
  have HA2 : Hid (∀ V, Calls Try.prog 64 #[.int .i64 place, .int .i64 2] V fun e w' => e = .returned (.int .i64 pl) ∧ V = w') := Lib.hid (fun V => by
    have h := at_any V place 2 (by omega) (by omega)
    rw [hpl] at h
    exact h)
  have hjj : (1 : Int) + (j0 : Int) = (j : Int) := by omega
  have hu41 := Try.underlying41
  have hu57 := Try.underlying57
  have hu106 := Try.underlying106
  have hu107 := Try.underlying107
  have hu141 := Try.underlying141
  obtain ⟨gw, cw', cur, hv, hlc, hbw, hcur⟩ := KW_blk hk.way (by omega)
  injection hv with hA hll hcc
  subst hA hcc
  obtain ⟨mm, hmm⟩ : ∃ mm, mm = x.way[jx] := ⟨_, rfl⟩
  have hcur' := hcur jx hjx
  rw [← hmm] at hcur'
  have HCur := Lib.hid hcur'
  have HBw := Lib.hid (show Blk w gw 141 cur from hbw)
  have HMm := Lib.hid hmm
  have HA5 : Hid (∀ V, Calls Try.prog 64 #[.int .i64 i, .int .i64 (x.way.length : Int)] V fun e w' => e = .returned (.int .i64 (jx : Int)) ∧ V = w') := Lib.hid (fun V => by
    have h := at_any V i (x.way.length : Int) (by omega) (by omega)
    rw [hjm] at h
    exact h)
  have hz0 : ((x.way.length : Int) == 0) = false := beq_eq_false_iff_ne.2 (by omega)
  have hjxI : (jx : Int) < (x.way.length : Int) := by omega
  have HJx := Lib.hid hjx
  have HLc := Lib.hid hlc
  clear hcur hcur' hbw hmm hjm hlc
  have hjx300 : (jx : Int) < 300 := by omega
  have hw1 : IntKind.i64.wrap ((jx : Int) + 1) = (jx : Int) + 1 := IntWalk.i64_in _ (by omega)
  obtain ⟨l3, hl3⟩ : ∃ l3, x.way.take jx ++ x.way.drop (jx + 1) = l3 := ⟨_, rfl⟩
  have he : x.way.eraseIdx jx = l3 := by rw [← hl3, List.eraseIdx_eq_take_drop_succ]
  have hl3n : l3.length + 1 = x.way.length := by rw [← he, List.length_eraseIdx, if_pos HJx.out]; omega
  have HL3 := Lib.hid hl3
  rw [he]
  clear hl3 he
  have hlen : ¬ (l3.length : Int) < 200 := by omega
  clear hc hl3n
  clear hk hp hj0 hj00 hpl hwl
  go_enter Try.func51, Try.ntmps51
  go_wp2_with (first
  | ((with_reducible refine gate_dst (N := 2) rfl ?_); refine box_event rfl (N := 2) rfl (cs := (WC x p m a b (.slice (some ⟨gw, 0, none⟩) x.way.length cw) term margin)) (t := 109) ?hr ?_; (case hr => first | (go_simp; done) | (go_simp; rfl)); intro g hg W1 hbox hb; have HE1 : Hid (Ed w W1 g lo p x m a b (.slice (some ⟨gw, 0, none⟩) x.way.length cw) term margin) := Lib.hid ⟨hbox, HKW.out.kept (Out.of hb), Out.of hb, (by rw [hg]; exact Nat.le_refl _), HLow.out⟩; clear hg hbox hb)
  | ((with_reducible refine gate_dst (N := 3) rfl ?_); refine box_event rfl (N := 3) rfl (cs := mC kind i place) (t := 114) ?hr ?_; (case hr => first | (go_simp; done) | (go_simp; rfl)); intro q hq W2 hbox hb; have HQ2 := Lib.hid (show Blk W2 q 114 (mC kind i place) from hbox); have HE2 := Lib.hid (HE1.out.o (Out.of hb)); have hgq : g ≠ q := (by rw [hq]; exact Nat.ne_of_lt HE1.out.blk.lt); clear hq hbox hb)
  | ((with_reducible refine gate_dst (N := 4) rfl ?_); refine box_event rfl (N := 4) rfl (cs := Z24) (t := 109) ?hr ?_; (case hr => first | (go_simp; done) | (go_simp; rfl)); intro r hr W3 hbox hb; have HR := Lib.hid (show Blk W3 r 109 Z24 from hbox); have HE := Lib.hid (HE2.out.o (Out.of hb)); have HQ := Lib.hid (HQ2.out.o (Out.of hb)); have hgr : g ≠ r := (by rw [hr]; exact Nat.ne_of_lt HE2.out.blk.lt); have hrw : w.heap.size ≤ r := (by rw [hr]; exact HE2.out.out.size); have HNow : Hid (∀ V, Out W3 V → Calls Try.prog 21 #[.pointer (some ⟨p, 0, none⟩), .int .i64 (j : Int)] V fun e w' => e = .returned (.int .i64 (x.c.N j)) ∧ V = w') := Lib.hid (fun V hX => now_some V lo (lo + 4) p 4 x.c (HE.out.wd.kept hX).clk j (by decide) hj4); have q0 : W3.cell? ⟨q, 0, none⟩ = some (.int .i64 kind) := HQ.out.cell 0; have q1 : W3.cell? ⟨q, 1, none⟩ = some (.int .i64 i) := HQ.out.cell 1; have q2 : W3.cell? ⟨q, 2, none⟩ = some (.int .i64 place) := HQ.out.cell 2; (try rw [hkd] at q0); have g20 : W3.cell? ⟨g, 20, none⟩ = some (.slice (some ⟨gw, 0, none⟩) x.way.length cw) := HE.out.blk.cell 20; clear hr hbox hb HE1 HE2 HQ2)
  | (go_at_call 64; (with_reducible refine (HA3.out _).mono ?_); rintro e5 W5 ⟨rfl, rfl⟩)
  | (go_at_call 64; (with_reducible refine (HA2.out _).mono ?_); rintro e5 W5 ⟨rfl, rfl⟩)
  | (go_at_call 64; (with_reducible refine (HA5.out _).mono ?_); rintro e5 W5 ⟨rfl, rfl⟩)
  | ((with_reducible refine gate_dst (N := 90) rfl ?_); refine wpList_load_part _ rfl (.tmp 89) 141 rfl gw (jx * 5) (wC mm) (by simp [Act.eval]) agg141 size141 141 _ (HBw.out.o HE.out.out) HCur.out ?_)
  | ((with_reducible refine gate_dst (N := 11) rfl ?_); refine box_event rfl (N := 11) rfl (cs := wC ⟨0, 0, 0, 0, 0⟩) (t := 141) ?hr ?_; (case hr => first | (go_simp; done) | (go_simp; rfl)); intro h hh W10 hbox hb; have HZ10 := Lib.hid (show Blk W10 h 141 _ from hbox); have hge : W3.heap.size ≤ h := (by rw [hh]; exact Nat.le_refl _); have hO10 := Lib.hid (Out.of hb); clear hh hbox hb)
  | (refine wpList_store_part _ rfl (.tmp 11) (.tmp 90) 141 rfl h 0 (wC mm) rfl rfl size141 rfl 141 _ HZ10.out (Nat.le_refl _) (wC mm) rfl ?_; intro w11 hbz hfz; have HY11 := Lib.hid hbz; have hO11 := Lib.hid (Out.far hO10.out hfz hge); have HE11 := Lib.hid (HE.out.o hO11.out); have HR11 := Lib.hid (HR.out.o hO11.out); have HQ11 := Lib.hid (HQ.out.o hO11.out); have q0b : w11.cell? ⟨q, 0, none⟩ = some (.int .i64 2) := (by rw [← hkd]; exact HQ11.out.cell 0); have g20b : w11.cell? ⟨g, 20, none⟩ = some (.slice (some ⟨gw, 0, none⟩) x.way.length cw) := HE11.out.blk.cell 20; have hgh : g ≠ h := (Nat.ne_of_lt (Nat.lt_of_lt_of_le HE.out.blk.lt hge)); have hqh : q ≠ h := (Nat.ne_of_lt (Nat.lt_of_lt_of_le HQ.out.lt hge)); clear hbz hfz)
  | fail)
  have HQ12 : Hid (Blk w11 q 114 (mC 2 i place)) := Lib.hid (by rw [← hkd]; exact HQ11.out)
  refine start_ (n := 14) (S := fun W' => Blk W' g 109 (WC x p m a b (.slice (some ⟨gw, 0, none⟩) x.way.length cw) term margin) ∧ Blk W' q 114 (mC 2 i place) ∧ Out w11 W') (ds := [13]) #[false, false, false, false, false, false, false, false, false, false, false, false, false, false] (by kernel_rfl) rfl rfl (⟨HE11.out.blk.drew, HQ12.out.drew, (Only.refl _ _ _).drew⟩) (fun hHeld => ?_)
  refine pure_ (i := 1) (N := some 95) (v := ?_) (a' := ?_) #[false, true, false, false, false, false, false, false, false, false, false, false, false, false] rfl rfl (by kernel_rfl) (fun _ _ _ h => h) (Or.inl ⟨by rfl, ?_⟩) ?_ ?_
  rotate_left
  · intro w'
    go_simp
    (try with_reducible rfl)
  rotate_left
  · simp only [Act.put, List.setIfInBounds_toArray, List.set_cons_zero, List.set_cons_succ]
    rfl
  refine pure_ (i := 3) (N := some 97) (v := ?_) (a' := ?_) #[false, true, false, true, false, false, false, false, false, false, false, false, false, false] rfl rfl (by kernel_rfl) (fun _ _ _ h => h) (Or.inl ⟨by rfl, ?_⟩) ?_ ?_
  rotate_left
  · intro w'
    go_simp
    (try with_reducible rfl)
  rotate_left
  · simp only [Act.put, List.setIfInBounds_toArray, List.set_cons_zero, List.set_cons_succ]
    rfl
  refine pure_ (i := 6) (N := some 100) (v := ?_) (a' := ?_) #[false, true, false, true, false, false, true, false, false, false, false, false, false, false] rfl rfl (by kernel_rfl) (fun _ _ _ h => h) (Or.inl ⟨by rfl, ?_⟩) ?_ ?_
  rotate_left
  · intro w'
    go_simp
    (try with_reducible rfl)
  rotate_left
  · simp only [Act.put, List.setIfInBounds_toArray, List.set_cons_zero, List.set_cons_succ]
    rfl
  refine pure_ (i := 8) (N := some 102) (v := ?_) (a' := ?_) #[false, true, false, true, false, false, true, false, true, false, false, false, false, false] rfl rfl (by kernel_rfl) (fun _ _ _ h => h) (Or.inl ⟨by rfl, ?_⟩) ?_ ?_
  rotate_left
  · intro w'
    go_simp
    (try with_reducible rfl)
  rotate_left
  · simp only [Act.put, List.setIfInBounds_toArray, List.set_cons_zero, List.set_cons_succ]
    rfl
  refine pure_ (i := 9) (N := some 103) (v := ?_) (a' := ?_) #[false, true, false, true, false, false, true, false, true, true, false, false, false, false] rfl rfl (by kernel_rfl) (fun _ _ _ h => h) (Or.inl ⟨by rfl, ?_⟩) ?_ ?_
  rotate_left
  · intro w'
    go_simp
    (try with_reducible rfl)
  rotate_left
  · simp only [Act.put, List.setIfInBounds_toArray, List.set_cons_zero, List.set_cons_succ]
    rfl
  refine take_ (i := 2) (N := some 96) (v := ?_) (a' := ?_) #[false, true, true, true, false, false, true, false, true, true, false, false, false, false] rfl rfl (by kernel_rfl) (fun _ _ _ h => h) (Or.inl ⟨by rfl, ?_⟩) hHeld ?_ ?_
  rotate_left
  · intro w' s0
    obtain ⟨t1, t2, t3⟩ := s0
    have c0 : w'.cell? ⟨g, 20, none⟩ = some (.slice (some ⟨gw, 0, none⟩) x.way.length cw) := t1.cell 20
    go_simp
    (try with_reducible rfl)
  rotate_left
  · simp only [Act.put, List.setIfInBounds_toArray, List.set_cons_zero, List.set_cons_succ]
    rfl
  refine pure_ (i := 4) (N := some 98) (v := ?_) (a' := ?_) #[false, true, true, true, true, false, true, false, true, true, false, false, false, false] rfl rfl (by kernel_rfl) (fun _ _ _ h => h) (Or.inl ⟨by rfl, ?_⟩) ?_ ?_
  rotate_left
  · intro w'
    refine exec_slice_hi (b := gw) (n := x.way.length) (c := cw) (i := jx) (.tmp 96) (.tmp 97) ?_ ?_ ?_ (Nat.le_of_lt HJx.out) HLc.out
    · rfl
    · rfl
    · rfl
  rotate_left
  · simp only [Act.put, List.setIfInBounds_toArray, List.set_cons_zero, List.set_cons_succ]
    rfl
  refine take_ (i := 7) (N := some 101) (v := ?_) (a' := ?_) #[false, true, true, true, true, false, true, true, true, true, false, false, false, false] rfl rfl (by kernel_rfl) (fun _ _ _ h => h) (Or.inl ⟨by rfl, ?_⟩) hHeld ?_ ?_
  rotate_left
  · intro w' s0
    obtain ⟨t1, t2, t3⟩ := s0
    have c0 : w'.cell? ⟨g, 20, none⟩ = some (.slice (some ⟨gw, 0, none⟩) x.way.length cw) := t1.cell 20
    go_simp
    (try with_reducible rfl)
  rotate_left
  · simp only [Act.put, List.setIfInBounds_toArray, List.set_cons_zero, List.set_cons_succ]
    rfl
  refine pure_ (i := 10) (N := some 104) (v := ?_) (a' := ?_) #[false, true, true, true, true, false, true, true, true, true, true, false, false, false] rfl rfl (by kernel_rfl) (fun _ _ _ h => h) (Or.inl ⟨by rfl, ?_⟩) ?_ ?_
  rotate_left
  · intro w'
    refine exec_slice_lo (b := gw) (n := x.way.length) (c := cw) (i := jx) (.tmp 101) (.tmp 103) ?_ ?_ ?_ HJx.out HLc.out
    · rfl
    · rfl
    · rfl
  rotate_left
  · simp only [Act.put, List.setIfInBounds_toArray, List.set_cons_zero, List.set_cons_succ]
    rfl
  refine one_ (i := 0) (N := some 94) (oi := ⟨some 94, Go.Op.buildSlice 107 0 #[], 107, "outright.go:90", #[], none⟩) #[true, true, true, true, true, false, true, true, true, true, true, false, false, false] rfl rfl (by kernel_rfl) (by decide) (fun K hK => ?_)
  refine step_lit0 (by rfl) rfl ?_
  intro g0 hg0 W12 hR0 hO
  have H0 := Lib.hid (Kd.R_lower hR0 hHeld.2.2.size)
  clear hR0 hg0
  refine hK.out _ _ (⟨hHeld.1.o hO, hHeld.2.1.o hO, hHeld.2.2.thens hO⟩) (fun hHeld => ?_)
  clear hK K
  try simp only [Act.put, List.setIfInBounds_toArray, List.set_cons_zero, List.set_cons_succ]
  refine one_ (i := 5) (N := some 99) (oi := ⟨some 99, Go.Op.call ⟨Go.Callee.builtin Go.Builtin.append, #[Go.Operand.tmp 94, Go.Operand.tmp 98], #[107, 107]⟩, 107, "outright.go:90", #[⟨0, Go.Ground.data⟩, ⟨4, Go.Ground.data⟩], none⟩) #[true, true, true, true, true, true, true, true, true, true, true, false, false, false] rfl rfl (by kernel_rfl) (by decide) (fun K hK => ?_)
  refine step_app (V0 := w11) (by rfl) (.tmp 94) (.tmp 98) rfl _ [] (x.way.take jx) (x.way.take jx) rfl (some ⟨gw, 0, none⟩) jx cw rfl rfl H0.out (C_hi (KW_C (KW_below HE11.out.wd.way hHeld.2.2)).2.2 HJx.out) hHeld.2.2 (by have := HWl.out; have := HJx.out; simp; omega) ?_
  intro A1 c1 w13 hR1 hO1 hg1
  have H3 := Lib.hid hR1
  clear hR1 hg1
  refine hK.out _ _ (⟨HE11.out.blk.o hO1, HQ12.out.o hO1, hO1⟩) (fun hHeld => ?_)
  clear hK K
  try simp only [Act.put, List.setIfInBounds_toArray, List.set_cons_zero, List.set_cons_succ]
  refine one_ (i := 11) (N := some 105) (oi := ⟨some 105, Go.Op.call ⟨Go.Callee.builtin Go.Builtin.append, #[Go.Operand.tmp 99, Go.Operand.tmp 104], #[107, 107]⟩, 107, "outright.go:90", #[⟨5, Go.Ground.data⟩, ⟨10, Go.Ground.data⟩, ⟨5, Go.Ground.chain⟩], none⟩) #[true, true, true, true, true, true, true, true, true, true, true, true, false, false] rfl rfl (by kernel_rfl) (by decide) (fun K hK => ?_)
  refine step_app (V0 := w11) (by rfl) (.tmp 99) (.tmp 104) rfl _ (x.way.take jx) (x.way.drop (jx + 1)) l3 HL3.out (some (loA gw cw jx)) (x.way.length - (jx + 1)) (cw - (jx + 1)) rfl rfl H3.out (C_lo (KW_C (KW_below HE11.out.wd.way hHeld.2.2)).2.2 HJx.out HLc.out) hHeld.2.2 (by have := HWl.out; have := HJx.out; rw [List.length_take]; omega) ?_
  intro A2 c2 w15 hR2 hO2 hg2
  have H6 := Lib.hid hR2
  clear hR2 hg2
  refine hK.out _ _ (⟨HE11.out.blk.o hO2, HQ12.out.o hO2, hO2⟩) (fun hHeld => ?_)
  clear hK K
  try simp only [Act.put, List.setIfInBounds_toArray, List.set_cons_zero, List.set_cons_succ]
  refine pure_ (i := 12) (N := some 106) (v := ?_) (a' := ?_) #[true, true, true, true, true, true, true, true, true, true, true, true, true, false] rfl rfl (by kernel_rfl) (fun _ _ _ h => h) (Or.inl ⟨by rfl, ?_⟩) ?_ ?_
  rotate_left
  · intro w'
    go_simp
    (try with_reducible rfl)
  rotate_left
  · simp only [Act.put, List.setIfInBounds_toArray, List.set_cons_zero, List.set_cons_succ]
    rfl
  refine last_ (i := 13) (N := none) (oi := ⟨none, Go.Op.store 107 (Go.Operand.tmp 106) (Go.Operand.tmp 105), 0, "outright.go:90", #[⟨12, Go.Ground.data⟩, ⟨11, Go.Ground.data⟩, ⟨11, Go.Ground.chain⟩, ⟨0, Go.Ground.phase⟩, ⟨1, Go.Ground.phase⟩, ⟨2, Go.Ground.phase⟩, ⟨3, Go.Ground.phase⟩, ⟨4, Go.Ground.phase⟩, ⟨5, Go.Ground.phase⟩, ⟨6, Go.Ground.phase⟩, ⟨7, Go.Ground.phase⟩, ⟨8, Go.Ground.phase⟩, ⟨9, Go.Ground.phase⟩, ⟨10, Go.Ground.phase⟩, ⟨11, Go.Ground.phase⟩], none⟩) #[true, true, true, true, true, true, true, true, true, true, true, true, true, true] rfl rfl (by kernel_rfl) (by decide) (fun K hK => ?_)
  refine step_store_one _ (by rfl) rfl (.tmp 106) (.tmp 105) 107 rfl g 20 (.slice A2 l3.length c2) rfl rfl size107 rfl rfl 109 _ hHeld.1 (by show 21 ≤ 24; omega) (WC { x with way := l3 } p m a b (.slice A2 l3.length c2) term margin) rfl ?_
  intro w8 hb8 hfr8
  have HE8 := Lib.hid ((HE11.out.o hHeld.2.2).way2 (Kd.R_lower H6.out (Nat.le_trans HLow.out HE11.out.out.size)) hb8 hfr8)
  have HR8 := Lib.hid ((HR11.out.o hHeld.2.2).away hfr8 hgr.symm)
  have HY8 := Lib.hid ((HY11.out.o hHeld.2.2).away hfr8 hgh.symm)
  have HQ8 := Lib.hid (hHeld.2.1.away hfr8 hgq.symm)
  have q0c : w8.cell? ⟨q, 0, none⟩ = some (.int .i64 2) := HQ8.out.cell 0
  have g20c : w8.cell? ⟨g, 20, none⟩ = some (.slice A2 l3.length c2) := HE8.out.blk.cell 20
  clear hb8 hfr8 hHeld
  refine hK.out _ _ ?_
  clear hK K
  try simp only [Act.put, List.setIfInBounds_toArray, List.set_cons_zero, List.set_cons_succ]
  refine done_ (by kernel_rfl) ?_
  go_wp2_with (first
    | ((with_reducible refine gate_dst (N := 177) rfl ?_); refine wpList_load_part _ rfl (.tmp 2) 109 rfl g 0 (WC { x with way := l3 } p m a b (.slice A2 l3.length c2) term margin) rfl agg109 size109 109 _ HE8.out.blk (fun k u hu => (by rw [Nat.zero_add]; simpa using hu)) ?_)
    | (refine wpList_store_part _ rfl (.tmp 4) (.tmp 177) 109 rfl r 0 (WC { x with way := l3 } p m a b (.slice A2 l3.length c2) term margin) rfl rfl size109 HE8.out.wd.one 109 _ HR8.out (Nat.le_refl _) (WC { x with way := l3 } p m a b (.slice A2 l3.length c2) term margin) rfl ?_; intro w9 hbz hfz; have HR9 := Lib.hid hbz; have HE9 := Lib.hid (HE8.out.away HR8.out (by decide) hrw hgr hfz); clear hbz hfz)
    | fail)
  exact bodyPost_ret (results_blk1 Try.results51 _ _ r (WC { x with way := l3 } p m a b (.slice A2 l3.length c2) term margin) rfl agg109 size109 HR9.out) rfl ⟨_, _, _, _, rfl, HE9.out.wd, Out.wide HE9.out.out⟩
set_option maxRecDepth 100000 in
set_option maxHeartbeats 16000000 in
theorem next2A (w : World) (lo p : Nat) (x : MW) (kind i place : Int) (j : Nat) (pl : Int) (m : Option Nat) (a b : Nat → Option Nat) (v : Value) (term margin : Int) (hk : Wd2 w lo p x m a b v) (hj : 1 ≤ j ∧ j ≤ 3 ∧ i % 3 = (j : Int) - 1) (hpl : place % 2 = pl) (hp : (Lit.int .i64 pl).wf = true) (hwl : x.way.length ≤ 300) (hkd : kind = 2) (jx : Nat) (hjx : jx < x.way.length) (hjm : i % (x.way.length : Int) = (jx : Int)) (hok : (1 ≤ x.way[jx].holder ∧ x.way[jx].holder ≤ 3) ∧ (Lit.int .i64 x.way[jx].place).wf = true) (hep : -9223372036854775808 ≤ x.s.epoch) (hsz : (lasting x.s.hs (x.c.N 0)).length < 1000000) (hhas : ∀ j, (x.hs j).has.length < 1000000) (hc : x.way.length - 1 < 200) :
    Calls Try.prog 51 #[.agg (WC x p m a b v term margin), .agg (mC kind i place)] w (HandsT w lo p (Go.Proofs.Ytefllgpehhlkoaa.come term margin { x with way := x.way.eraseIdx jx } x.way[jx]) term margin) := by
  obtain ⟨Aw, cw, rfl⟩ := Kd.R_slice hk.way
  obtain ⟨hj1, hj3, hj0⟩ := hj
  have HKW := Lib.hid hk
  have HKP := Lib.hid hp
  have HWl := Lib.hid hwl
  have HLow := Lib.hid hk.full
  have hj4 : j < 4 := by omega
  have hjI : (j : Int) < 4 := by omega
  have hjn : ¬ (j : Int) < 0 := by omega
  obtain ⟨j0, hj00⟩ : ∃ j0 : Nat, j = j0 + 1 := ⟨j - 1, by omega⟩
  have HA3 : Hid (∀ V, Calls Try.prog 64 #[.int .i64 i, .int .i64 3] V fun e w' => e = .returned (.int .i64 (j0 : Int)) ∧ V = w') := Lib.hid (fun V => by
    have h := at_any V i 3 (by omega) (by omega)
    rw [hj0, show (j : Int) - 1 = (j0 : Int) by omega] at h
    exact h)
  have HA2 : Hid (∀ V, Calls Try.prog 64 #[.int .i64 place, .int .i64 2] V fun e w' => e = .returned (.int .i64 pl) ∧ V = w') := Lib.hid (fun V => by
    have h := at_any V place 2 (by omega) (by omega)
    rw [hpl] at h
    exact h)
  have hjj : (1 : Int) + (j0 : Int) = (j : Int) := by omega
  have hu41 := Try.underlying41
  have hu57 := Try.underlying57
  have hu106 := Try.underlying106
  have hu107 := Try.underlying107
  have hu141 := Try.underlying141
  obtain ⟨gw, cw', cur, hv, hlc, hbw, hcur⟩ := KW_blk hk.way (by omega)
  injection hv with hA hll hcc
  subst hA hcc
  obtain ⟨mm, hmm⟩ : ∃ mm, mm = x.way[jx] := ⟨_, rfl⟩
  have hcur' := hcur jx hjx
  rw [← hmm] at hcur'
  have HCur := Lib.hid hcur'
  have HBw := Lib.hid (show Blk w gw 141 cur from hbw)
  have HMm := Lib.hid hmm
  have HA5 : Hid (∀ V, Calls Try.prog 64 #[.int .i64 i, .int .i64 (x.way.length : Int)] V fun e w' => e = .returned (.int .i64 (jx : Int)) ∧ V = w') := Lib.hid (fun V => by
    have h := at_any V i (x.way.length : Int) (by omega) (by omega)
    rw [hjm] at h
    exact h)
  have hz0 : ((x.way.length : Int) == 0) = false := beq_eq_false_iff_ne.2 (by omega)
  have hjxI : (jx : Int) < (x.way.length : Int) := by omega
  have HJx := Lib.hid hjx
  have HLc := Lib.hid hlc
  clear hcur hcur' hbw hjm hlc
  have hjx300 : (jx : Int) < 300 := by omega
  have hw1 : IntKind.i64.wrap ((jx : Int) + 1) = (jx : Int) + 1 := IntWalk.i64_in _ (by omega)
  obtain ⟨l3, hl3⟩ : ∃ l3, x.way.take jx ++ x.way.drop (jx + 1) = l3 := ⟨_, rfl⟩
  have he : x.way.eraseIdx jx = l3 := by rw [← hl3, List.eraseIdx_eq_take_drop_succ]
  have hl3n : l3.length + 1 = x.way.length := by rw [← he, List.length_eraseIdx, if_pos HJx.out]; omega
  have HL3 := Lib.hid hl3
  obtain ⟨yy, hyy⟩ : ∃ yy, yy = Go.Proofs.Ytefllgpehhlkoaa.come term margin { x with way := l3 } mm := ⟨_, rfl⟩
  have HCo : Hid (∀ V mA aA bA vA, Wd2 V lo p { x with way := l3 } mA aA bA vA → Calls Try.prog 65 #[.agg (WC { x with way := l3 } p mA aA bA vA term margin), .agg (wC mm)] V (Hands V lo p yy term margin)) := Lib.hid (fun V mA aA bA vA h => by
    rw [hyy]
    exact come_any V lo p { x with way := l3 } mm mA aA bA vA term margin h (by rw [hmm]; exact hok.1) (by rw [hmm]; exact hok.2) hep hsz hhas (by show l3.length ≤ 300; omega))
  rw [he, ← hmm, ← hyy]
  have hlen : (l3.length : Int) < 200 := by omega
  clear hl3 he hc hl3n hok hep hsz hhas hyy hmm
  clear hk hp hj0 hj00 hpl hwl
  go_enter Try.func51, Try.ntmps51
  go_wp2_with (first
  | ((with_reducible refine gate_dst (N := 2) rfl ?_); refine box_event rfl (N := 2) rfl (cs := (WC x p m a b (.slice (some ⟨gw, 0, none⟩) x.way.length cw) term margin)) (t := 109) ?hr ?_; (case hr => first | (go_simp; done) | (go_simp; rfl)); intro g hg W1 hbox hb; have HE1 : Hid (Ed w W1 g lo p x m a b (.slice (some ⟨gw, 0, none⟩) x.way.length cw) term margin) := Lib.hid ⟨hbox, HKW.out.kept (Out.of hb), Out.of hb, (by rw [hg]; exact Nat.le_refl _), HLow.out⟩; clear hg hbox hb)
  | ((with_reducible refine gate_dst (N := 3) rfl ?_); refine box_event rfl (N := 3) rfl (cs := mC kind i place) (t := 114) ?hr ?_; (case hr => first | (go_simp; done) | (go_simp; rfl)); intro q hq W2 hbox hb; have HQ2 := Lib.hid (show Blk W2 q 114 (mC kind i place) from hbox); have HE2 := Lib.hid (HE1.out.o (Out.of hb)); have hgq : g ≠ q := (by rw [hq]; exact Nat.ne_of_lt HE1.out.blk.lt); clear hq hbox hb)
  | ((with_reducible refine gate_dst (N := 4) rfl ?_); refine box_event rfl (N := 4) rfl (cs := Z24) (t := 109) ?hr ?_; (case hr => first | (go_simp; done) | (go_simp; rfl)); intro r hr W3 hbox hb; have HR := Lib.hid (show Blk W3 r 109 Z24 from hbox); have HE := Lib.hid (HE2.out.o (Out.of hb)); have HQ := Lib.hid (HQ2.out.o (Out.of hb)); have hgr : g ≠ r := (by rw [hr]; exact Nat.ne_of_lt HE2.out.blk.lt); have hrw : w.heap.size ≤ r := (by rw [hr]; exact HE2.out.out.size); have HNow : Hid (∀ V, Out W3 V → Calls Try.prog 21 #[.pointer (some ⟨p, 0, none⟩), .int .i64 (j : Int)] V fun e w' => e = .returned (.int .i64 (x.c.N j)) ∧ V = w') := Lib.hid (fun V hX => now_some V lo (lo + 4) p 4 x.c (HE.out.wd.kept hX).clk j (by decide) hj4); have q0 : W3.cell? ⟨q, 0, none⟩ = some (.int .i64 kind) := HQ.out.cell 0; have q1 : W3.cell? ⟨q, 1, none⟩ = some (.int .i64 i) := HQ.out.cell 1; have q2 : W3.cell? ⟨q, 2, none⟩ = some (.int .i64 place) := HQ.out.cell 2; (try rw [hkd] at q0); have g20 : W3.cell? ⟨g, 20, none⟩ = some (.slice (some ⟨gw, 0, none⟩) x.way.length cw) := HE.out.blk.cell 20; clear hr hbox hb HE1 HE2 HQ2)
  | (go_at_call 64; (with_reducible refine (HA3.out _).mono ?_); rintro e5 W5 ⟨rfl, rfl⟩)
  | (go_at_call 64; (with_reducible refine (HA2.out _).mono ?_); rintro e5 W5 ⟨rfl, rfl⟩)
  | (go_at_call 64; (with_reducible refine (HA5.out _).mono ?_); rintro e5 W5 ⟨rfl, rfl⟩)
  | ((with_reducible refine gate_dst (N := 90) rfl ?_); refine wpList_load_part _ rfl (.tmp 89) 141 rfl gw (jx * 5) (wC mm) (by simp [Act.eval]) agg141 size141 141 _ (HBw.out.o HE.out.out) HCur.out ?_)
  | ((with_reducible refine gate_dst (N := 11) rfl ?_); refine box_event rfl (N := 11) rfl (cs := wC ⟨0, 0, 0, 0, 0⟩) (t := 141) ?hr ?_; (case hr => first | (go_simp; done) | (go_simp; rfl)); intro h hh W10 hbox hb; have HZ10 := Lib.hid (show Blk W10 h 141 _ from hbox); have hge : W3.heap.size ≤ h := (by rw [hh]; exact Nat.le_refl _); have hO10 := Lib.hid (Out.of hb); clear hh hbox hb)
  | (refine wpList_store_part _ rfl (.tmp 11) (.tmp 90) 141 rfl h 0 (wC mm) rfl rfl size141 rfl 141 _ HZ10.out (Nat.le_refl _) (wC mm) rfl ?_; intro w11 hbz hfz; have HY11 := Lib.hid hbz; have hO11 := Lib.hid (Out.far hO10.out hfz hge); have HE11 := Lib.hid (HE.out.o hO11.out); have HR11 := Lib.hid (HR.out.o hO11.out); have HQ11 := Lib.hid (HQ.out.o hO11.out); have q0b : w11.cell? ⟨q, 0, none⟩ = some (.int .i64 2) := (by rw [← hkd]; exact HQ11.out.cell 0); have g20b : w11.cell? ⟨g, 20, none⟩ = some (.slice (some ⟨gw, 0, none⟩) x.way.length cw) := HE11.out.blk.cell 20; have hgh : g ≠ h := (Nat.ne_of_lt (Nat.lt_of_lt_of_le HE.out.blk.lt hge)); have hqh : q ≠ h := (Nat.ne_of_lt (Nat.lt_of_lt_of_le HQ.out.lt hge)); clear hbz hfz)
  | fail)
  have HQ12 : Hid (Blk w11 q 114 (mC 2 i place)) := Lib.hid (by rw [← hkd]; exact HQ11.out)
  refine start_ (n := 14) (S := fun W' => Blk W' g 109 (WC x p m a b (.slice (some ⟨gw, 0, none⟩) x.way.length cw) term margin) ∧ Blk W' q 114 (mC 2 i place) ∧ Out w11 W') (ds := [13]) #[false, false, false, false, false, false, false, false, false, false, false, false, false, false] (by kernel_rfl) rfl rfl (⟨HE11.out.blk.drew, HQ12.out.drew, (Only.refl _ _ _).drew⟩) (fun hHeld => ?_)
  refine pure_ (i := 1) (N := some 95) (v := ?_) (a' := ?_) #[false, true, false, false, false, false, false, false, false, false, false, false, false, false] rfl rfl (by kernel_rfl) (fun _ _ _ h => h) (Or.inl ⟨by rfl, ?_⟩) ?_ ?_
  rotate_left
  · intro w'
    go_simp
    (try with_reducible rfl)
  rotate_left
  · simp only [Act.put, List.setIfInBounds_toArray, List.set_cons_zero, List.set_cons_succ]
    rfl
  refine pure_ (i := 3) (N := some 97) (v := ?_) (a' := ?_) #[false, true, false, true, false, false, false, false, false, false, false, false, false, false] rfl rfl (by kernel_rfl) (fun _ _ _ h => h) (Or.inl ⟨by rfl, ?_⟩) ?_ ?_
  rotate_left
  · intro w'
    go_simp
    (try with_reducible rfl)
  rotate_left
  · simp only [Act.put, List.setIfInBounds_toArray, List.set_cons_zero, List.set_cons_succ]
    rfl
  refine pure_ (i := 6) (N := some 100) (v := ?_) (a' := ?_) #[false, true, false, true, false, false, true, false, false, false, false, false, false, false] rfl rfl (by kernel_rfl) (fun _ _ _ h => h) (Or.inl ⟨by rfl, ?_⟩) ?_ ?_
  rotate_left
  · intro w'
    go_simp
    (try with_reducible rfl)
  rotate_left
  · simp only [Act.put, List.setIfInBounds_toArray, List.set_cons_zero, List.set_cons_succ]
    rfl
  refine pure_ (i := 8) (N := some 102) (v := ?_) (a' := ?_) #[false, true, false, true, false, false, true, false, true, false, false, false, false, false] rfl rfl (by kernel_rfl) (fun _ _ _ h => h) (Or.inl ⟨by rfl, ?_⟩) ?_ ?_
  rotate_left
  · intro w'
    go_simp
    (try with_reducible rfl)
  rotate_left
  · simp only [Act.put, List.setIfInBounds_toArray, List.set_cons_zero, List.set_cons_succ]
    rfl
  refine pure_ (i := 9) (N := some 103) (v := ?_) (a' := ?_) #[false, true, false, true, false, false, true, false, true, true, false, false, false, false] rfl rfl (by kernel_rfl) (fun _ _ _ h => h) (Or.inl ⟨by rfl, ?_⟩) ?_ ?_
  rotate_left
  · intro w'
    go_simp
    (try with_reducible rfl)
  rotate_left
  · simp only [Act.put, List.setIfInBounds_toArray, List.set_cons_zero, List.set_cons_succ]
    rfl
  refine take_ (i := 2) (N := some 96) (v := ?_) (a' := ?_) #[false, true, true, true, false, false, true, false, true, true, false, false, false, false] rfl rfl (by kernel_rfl) (fun _ _ _ h => h) (Or.inl ⟨by rfl, ?_⟩) hHeld ?_ ?_
  rotate_left
  · intro w' s0
    obtain ⟨t1, t2, t3⟩ := s0
    have c0 : w'.cell? ⟨g, 20, none⟩ = some (.slice (some ⟨gw, 0, none⟩) x.way.length cw) := t1.cell 20
    go_simp
    (try with_reducible rfl)
  rotate_left
  · simp only [Act.put, List.setIfInBounds_toArray, List.set_cons_zero, List.set_cons_succ]
    rfl
  refine pure_ (i := 4) (N := some 98) (v := ?_) (a' := ?_) #[false, true, true, true, true, false, true, false, true, true, false, false, false, false] rfl rfl (by kernel_rfl) (fun _ _ _ h => h) (Or.inl ⟨by rfl, ?_⟩) ?_ ?_
  rotate_left
  · intro w'
    refine exec_slice_hi (b := gw) (n := x.way.length) (c := cw) (i := jx) (.tmp 96) (.tmp 97) ?_ ?_ ?_ (Nat.le_of_lt HJx.out) HLc.out
    · rfl
    · rfl
    · rfl
  rotate_left
  · simp only [Act.put, List.setIfInBounds_toArray, List.set_cons_zero, List.set_cons_succ]
    rfl
  refine take_ (i := 7) (N := some 101) (v := ?_) (a' := ?_) #[false, true, true, true, true, false, true, true, true, true, false, false, false, false] rfl rfl (by kernel_rfl) (fun _ _ _ h => h) (Or.inl ⟨by rfl, ?_⟩) hHeld ?_ ?_
  rotate_left
  · intro w' s0
    obtain ⟨t1, t2, t3⟩ := s0
    have c0 : w'.cell? ⟨g, 20, none⟩ = some (.slice (some ⟨gw, 0, none⟩) x.way.length cw) := t1.cell 20
    go_simp
    (try with_reducible rfl)
  rotate_left
  · simp only [Act.put, List.setIfInBounds_toArray, List.set_cons_zero, List.set_cons_succ]
    rfl
  refine pure_ (i := 10) (N := some 104) (v := ?_) (a' := ?_) #[false, true, true, true, true, false, true, true, true, true, true, false, false, false] rfl rfl (by kernel_rfl) (fun _ _ _ h => h) (Or.inl ⟨by rfl, ?_⟩) ?_ ?_
  rotate_left
  · intro w'
    refine exec_slice_lo (b := gw) (n := x.way.length) (c := cw) (i := jx) (.tmp 101) (.tmp 103) ?_ ?_ ?_ HJx.out HLc.out
    · rfl
    · rfl
    · rfl
  rotate_left
  · simp only [Act.put, List.setIfInBounds_toArray, List.set_cons_zero, List.set_cons_succ]
    rfl
  refine one_ (i := 0) (N := some 94) (oi := ⟨some 94, Go.Op.buildSlice 107 0 #[], 107, "outright.go:90", #[], none⟩) #[true, true, true, true, true, false, true, true, true, true, true, false, false, false] rfl rfl (by kernel_rfl) (by decide) (fun K hK => ?_)
  refine step_lit0 (by rfl) rfl ?_
  intro g0 hg0 W12 hR0 hO
  have H0 := Lib.hid (Kd.R_lower hR0 hHeld.2.2.size)
  clear hR0 hg0
  refine hK.out _ _ (⟨hHeld.1.o hO, hHeld.2.1.o hO, hHeld.2.2.thens hO⟩) (fun hHeld => ?_)
  clear hK K
  try simp only [Act.put, List.setIfInBounds_toArray, List.set_cons_zero, List.set_cons_succ]
  refine one_ (i := 5) (N := some 99) (oi := ⟨some 99, Go.Op.call ⟨Go.Callee.builtin Go.Builtin.append, #[Go.Operand.tmp 94, Go.Operand.tmp 98], #[107, 107]⟩, 107, "outright.go:90", #[⟨0, Go.Ground.data⟩, ⟨4, Go.Ground.data⟩], none⟩) #[true, true, true, true, true, true, true, true, true, true, true, false, false, false] rfl rfl (by kernel_rfl) (by decide) (fun K hK => ?_)
  refine step_app (V0 := w11) (by rfl) (.tmp 94) (.tmp 98) rfl _ [] (x.way.take jx) (x.way.take jx) rfl (some ⟨gw, 0, none⟩) jx cw rfl rfl H0.out (C_hi (KW_C (KW_below HE11.out.wd.way hHeld.2.2)).2.2 HJx.out) hHeld.2.2 (by have := HWl.out; have := HJx.out; simp; omega) ?_
  intro A1 c1 w13 hR1 hO1 hg1
  have H3 := Lib.hid hR1
  clear hR1 hg1
  refine hK.out _ _ (⟨HE11.out.blk.o hO1, HQ12.out.o hO1, hO1⟩) (fun hHeld => ?_)
  clear hK K
  try simp only [Act.put, List.setIfInBounds_toArray, List.set_cons_zero, List.set_cons_succ]
  refine one_ (i := 11) (N := some 105) (oi := ⟨some 105, Go.Op.call ⟨Go.Callee.builtin Go.Builtin.append, #[Go.Operand.tmp 99, Go.Operand.tmp 104], #[107, 107]⟩, 107, "outright.go:90", #[⟨5, Go.Ground.data⟩, ⟨10, Go.Ground.data⟩, ⟨5, Go.Ground.chain⟩], none⟩) #[true, true, true, true, true, true, true, true, true, true, true, true, false, false] rfl rfl (by kernel_rfl) (by decide) (fun K hK => ?_)
  refine step_app (V0 := w11) (by rfl) (.tmp 99) (.tmp 104) rfl _ (x.way.take jx) (x.way.drop (jx + 1)) l3 HL3.out (some (loA gw cw jx)) (x.way.length - (jx + 1)) (cw - (jx + 1)) rfl rfl H3.out (C_lo (KW_C (KW_below HE11.out.wd.way hHeld.2.2)).2.2 HJx.out HLc.out) hHeld.2.2 (by have := HWl.out; have := HJx.out; rw [List.length_take]; omega) ?_
  intro A2 c2 w15 hR2 hO2 hg2
  have H6 := Lib.hid hR2
  clear hR2 hg2
  refine hK.out _ _ (⟨HE11.out.blk.o hO2, HQ12.out.o hO2, hO2⟩) (fun hHeld => ?_)
  clear hK K
  try simp only [Act.put, List.setIfInBounds_toArray, List.set_cons_zero, List.set_cons_succ]
  refine pure_ (i := 12) (N := some 106) (v := ?_) (a' := ?_) #[true, true, true, true, true, true, true, true, true, true, true, true, true, false] rfl rfl (by kernel_rfl) (fun _ _ _ h => h) (Or.inl ⟨by rfl, ?_⟩) ?_ ?_
  rotate_left
  · intro w'
    go_simp
    (try with_reducible rfl)
  rotate_left
  · simp only [Act.put, List.setIfInBounds_toArray, List.set_cons_zero, List.set_cons_succ]
    rfl
  refine last_ (i := 13) (N := none) (oi := ⟨none, Go.Op.store 107 (Go.Operand.tmp 106) (Go.Operand.tmp 105), 0, "outright.go:90", #[⟨12, Go.Ground.data⟩, ⟨11, Go.Ground.data⟩, ⟨11, Go.Ground.chain⟩, ⟨0, Go.Ground.phase⟩, ⟨1, Go.Ground.phase⟩, ⟨2, Go.Ground.phase⟩, ⟨3, Go.Ground.phase⟩, ⟨4, Go.Ground.phase⟩, ⟨5, Go.Ground.phase⟩, ⟨6, Go.Ground.phase⟩, ⟨7, Go.Ground.phase⟩, ⟨8, Go.Ground.phase⟩, ⟨9, Go.Ground.phase⟩, ⟨10, Go.Ground.phase⟩, ⟨11, Go.Ground.phase⟩], none⟩) #[true, true, true, true, true, true, true, true, true, true, true, true, true, true] rfl rfl (by kernel_rfl) (by decide) (fun K hK => ?_)
  refine step_store_one _ (by rfl) rfl (.tmp 106) (.tmp 105) 107 rfl g 20 (.slice A2 l3.length c2) rfl rfl size107 rfl rfl 109 _ hHeld.1 (by show 21 ≤ 24; omega) (WC { x with way := l3 } p m a b (.slice A2 l3.length c2) term margin) rfl ?_
  intro w8 hb8 hfr8
  have HE8 := Lib.hid ((HE11.out.o hHeld.2.2).way2 (Kd.R_lower H6.out (Nat.le_trans HLow.out HE11.out.out.size)) hb8 hfr8)
  have HR8 := Lib.hid ((HR11.out.o hHeld.2.2).away hfr8 hgr.symm)
  have HY8 := Lib.hid ((HY11.out.o hHeld.2.2).away hfr8 hgh.symm)
  have HQ8 := Lib.hid (hHeld.2.1.away hfr8 hgq.symm)
  have q0c : w8.cell? ⟨q, 0, none⟩ = some (.int .i64 2) := HQ8.out.cell 0
  have g20c : w8.cell? ⟨g, 20, none⟩ = some (.slice A2 l3.length c2) := HE8.out.blk.cell 20
  clear hb8 hfr8 hHeld
  refine hK.out _ _ ?_
  clear hK K
  try simp only [Act.put, List.setIfInBounds_toArray, List.set_cons_zero, List.set_cons_succ]
  refine done_ (by kernel_rfl) ?_
  go_wp2_with (first
    | ((with_reducible refine gate_dst (N := 116) rfl ?_); refine wpList_load_part _ rfl (.tmp 2) 109 rfl g 0 (WC { x with way := l3 } p m a b (.slice A2 l3.length c2) term margin) rfl agg109 size109 109 _ HE8.out.blk (fun k u hu => (by rw [Nat.zero_add]; simpa using hu)) ?_)
    | ((with_reducible refine gate_dst (N := 117) rfl ?_); refine wpList_load_part _ rfl (.tmp 11) 141 rfl h 0 (wC mm) rfl agg141 size141 141 _ HY8.out (fun k u hu => (by rw [Nat.zero_add]; simpa using hu)) ?_)
    | (go_at_call 65; (with_reducible refine (HCo.out _ _ _ _ _ HE8.out.wd).mono ?_); rintro e6 W12 ⟨m1, a1, b1, v1, rfl, hwd, hO⟩; have HWd := Lib.hid hwd; have hO12 := Lib.hid hO; have HG12 := Lib.hid (HE8.out.blk.o hO); have HR12 := Lib.hid (HR8.out.o hO); clear hwd hO)
    | (refine wpList_store_part _ rfl (.tmp 2) (.tmp 118) 109 rfl g 0 (WC yy p m1 a1 b1 v1 term margin) rfl rfl size109 HWd.out.one 109 _ HG12.out (Nat.le_refl _) (WC yy p m1 a1 b1 v1 term margin) rfl ?_; intro w13 hbz hfz; have HE13 := Lib.hid (HE8.out.come HWd.out hO12.out hbz hfz); have HR13 := Lib.hid (HR12.out.away hfz hgr.symm); clear hbz hfz)
    | ((with_reducible refine gate_dst (N := 177) rfl ?_); refine wpList_load_part _ rfl (.tmp 2) 109 rfl g 0 (WC yy p m1 a1 b1 v1 term margin) rfl agg109 size109 109 _ HE13.out.blk (fun k u hu => (by rw [Nat.zero_add]; simpa using hu)) ?_)
    | (refine wpList_store_part _ rfl (.tmp 4) (.tmp 177) 109 rfl r 0 (WC yy p m1 a1 b1 v1 term margin) rfl rfl size109 HE13.out.wd.one 109 _ HR13.out (Nat.le_refl _) (WC yy p m1 a1 b1 v1 term margin) rfl ?_; intro w9 hbz hfz; have HR9 := Lib.hid hbz; have HE9 := Lib.hid (HE13.out.away HR13.out (by decide) hrw hgr hfz); clear hbz hfz)
    | fail)
  exact bodyPost_ret (results_blk1 Try.results51 _ _ r (WC yy p m1 a1 b1 v1 term margin) rfl agg109 size109 HR9.out) rfl ⟨_, _, _, _, rfl, HE9.out.wd, Out.wide HE9.out.out⟩
end Go.Proofs.Ytefllgpehhlkoaa.Mar
