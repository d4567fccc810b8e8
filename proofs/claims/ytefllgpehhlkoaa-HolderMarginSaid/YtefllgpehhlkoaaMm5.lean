/-
  HolderMargin: moves: a holder gives a place back.
  HolderMargin: moves: a holder asks.
-/
import Derived.Test.YtefllgpehhlkoaaMm4
namespace Go.Proofs.Ytefllgpehhlkoaa.Mar
open Go.RowKit Go.Maps Go.Proofs.YtefllgpehhlkoaaW.PrintWords Go.Proofs.YtefllgpehhlkoaaW.PrintLast
set_option linter.unusedVariables false
set_option linter.unusedSimpArgs false

set_option maxRecDepth 100000 in
set_option maxHeartbeats 16000000 in
theorem next5A (w : World) (lo p : Nat) (x : MW) (kind i place : Int) (j : Nat) (pl : Int) (m : Option Nat) (a b : Nat → Option Nat) (v : Value) (term margin : Int) (hk : Wd2 w lo p x m a b v) (hj : 1 ≤ j ∧ j ≤ 3 ∧ i % 3 = (j : Int) - 1) (hpl : place % 2 = pl) (hp : (Lit.int .i64 pl).wf = true) (hwl : x.way.length ≤ 300) (hkd : kind = 5) (hok : (letH (x.hs j) pl).2.2 = 0) (hc : x.way.length < 200) :
    Calls Try.prog 51 #[.agg (WC x p m a b v term margin), .agg (mC kind i place)] w (HandsT w lo p { x with hs := setH x.hs j (letH (x.hs j) pl).1, way := x.way ++ [⟨4, j, pl, 0, (letH (x.hs j) pl).2.1⟩] } term margin) := by
  obtain ⟨Aw, cw, rfl⟩ := Kd.R_slice hk.way
  obtain ⟨hj1, hj3, hj0⟩ := hj
  have HKW := Lib.hid hk
  have HKP := Lib.hid hp
  have HWl := Lib.hid hwl
  have HLow := Lib.hid hk.full
  have hj4 : j < 4 := by omega
  have hjI : (j : Int) < 4 := by omega
  have hjn : ¬ (j : Int) < 0 := by omega
  obtain ⟨j0, hj00⟩ : ∃ j0 : Nat, j = j0 + 1 := ⟨j - 1, by omega⟩
  have HA3 : Hid (∀ V, Calls Try.prog 64 #[.int .i64 i, .int .i64 3] V fun e w' => e = .returned (.int .i64 (j0 : Int)) ∧ V = w') := Lib.hid (fun V => by
    have h := at_any V i 3 (by omega) (by omega)
    rw [hj0, show (j : Int) - 1 = (j0 : Int) by omega] at h
    exact h)
  have HA2 : Hid (∀ V, Calls Try.prog 64 #[.int .i64 place, .int .i64 2] V fun e w' => e = .returned (.int .i64 pl) ∧ V = w') := Lib.hid (fun V => by
    have h := at_any V place 2 (by omega) (by omega)
    rw [hpl] at h
    exact h)
  have hjj : (1 : Int) + (j0 : Int) = (j : Int) := by omega
  have hu41 := Try.underlying41
  have hu57 := Try.underlying57
  have hu106 := Try.underlying106
  have hu107 := Try.underlying107
  have hu141 := Try.underlying141
  obtain ⟨ne, hne⟩ : ∃ ne, ne = (letH (x.hs j) pl).2.1 := ⟨_, rfl⟩
  rw [← hne]
  obtain ⟨wd, hwd⟩ : ∃ wd : Word, wd = ⟨4, j, pl, 0, ne⟩ := ⟨_, rfl⟩
  rw [← hwd]
  have HWd := Lib.hid hwd
  obtain ⟨l3, hl3⟩ : ∃ l3, x.way ++ [wd] = l3 := ⟨_, rfl⟩
  rw [hl3]
  have HL3 := Lib.hid hl3
  clear hwd hl3
  have HG : Hid ((letH (x.hs j) pl) = ((letH (x.hs j) pl).1, ne, 0)) := Lib.hid (by rw [hne, ← hok])
  clear hok hne
  have hlen : (x.way.length : Int) < 200 := by omega
  clear hc
  have hfit : 4 + j * 4 + (hC (x.hs j) (a j) (b j)).size ≤ (WC x p m a b (.slice Aw x.way.length cw) term margin).size := (by show 4 + j * 4 + 4 ≤ 24; omega)
  have HLt : Hid (∀ V, Out w V → Calls Try.prog 46 #[.agg (hC (x.hs j) (a j) (b j)), .int .i64 pl] V fun e w' => ∃ n1 n2, e = .returned (.tuple #[.agg (hC (letH (x.hs j) pl).1 n1 n2), .int .i64 ne, .int .i64 0]) ∧ (MapIs pairE w' n1 (letH (x.hs j) pl).1.wants ∧ MapIs pairE w' n2 (letH (x.hs j) pl).1.has) ∧ Out w w' ∧ Out V w') := Lib.hid (fun V hX => letH_from hX (HKW.out.hw j) (HKW.out.hh j) rfl rfl rfl rfl HKP.out HG.out)
  clear hk hp hj0 hj00 hpl hwl
  go_enter Try.func51, Try.ntmps51
  go_wp2_with (first
  | ((with_reducible refine gate_dst (N := 2) rfl ?_); refine box_event rfl (N := 2) rfl (cs := (WC x p m a b (.slice Aw x.way.length cw) term margin)) (t := 109) ?hr ?_; (case hr => first | (go_simp; done) | (go_simp; rfl)); intro g hg W1 hbox hb; have HE1 : Hid (Ed w W1 g lo p x m a b (.slice Aw x.way.length cw) term margin) := Lib.hid ⟨hbox, HKW.out.kept (Out.of hb), Out.of hb, (by rw [hg]; exact Nat.le_refl _), HLow.out⟩; clear hg hbox hb)
  | ((with_reducible refine gate_dst (N := 3) rfl ?_); refine box_event rfl (N := 3) rfl (cs := mC kind i place) (t := 114) ?hr ?_; (case hr => first | (go_simp; done) | (go_simp; rfl)); intro q hq W2 hbox hb; have HQ2 := Lib.hid (show Blk W2 q 114 (mC kind i place) from hbox); have HE2 := Lib.hid (HE1.out.o (Out.of hb)); have hgq : g ≠ q := (by rw [hq]; exact Nat.ne_of_lt HE1.out.blk.lt); clear hq hbox hb)
  | ((with_reducible refine gate_dst (N := 4) rfl ?_); refine box_event rfl (N := 4) rfl (cs := Z24) (t := 109) ?hr ?_; (case hr => first | (go_simp; done) | (go_simp; rfl)); intro r hr W3 hbox hb; have HR := Lib.hid (show Blk W3 r 109 Z24 from hbox); have HE := Lib.hid (HE2.out.o (Out.of hb)); have HQ := Lib.hid (HQ2.out.o (Out.of hb)); have hgr : g ≠ r := (by rw [hr]; exact Nat.ne_of_lt HE2.out.blk.lt); have hrw : w.heap.size ≤ r := (by rw [hr]; exact HE2.out.out.size); have HNow : Hid (∀ V, Out W3 V → Calls Try.prog 21 #[.pointer (some ⟨p, 0, none⟩), .int .i64 (j : Int)] V fun e w' => e = .returned (.int .i64 (x.c.N j)) ∧ V = w') := Lib.hid (fun V hX => now_some V lo (lo + 4) p 4 x.c (HE.out.wd.kept hX).clk j (by decide) hj4); have q0 : W3.cell? ⟨q, 0, none⟩ = some (.int .i64 kind) := HQ.out.cell 0; have q1 : W3.cell? ⟨q, 1, none⟩ = some (.int .i64 i) := HQ.out.cell 1; have q2 : W3.cell? ⟨q, 2, none⟩ = some (.int .i64 place) := HQ.out.cell 2; (try rw [hkd] at q0); have g20 : W3.cell? ⟨g, 20, none⟩ = some (.slice Aw x.way.length cw) := HE.out.blk.cell 20; clear hr hbox hb HE1 HE2 HQ2)
  | (go_at_call 64; (with_reducible refine (HA3.out _).mono ?_); rintro e5 W5 ⟨rfl, rfl⟩)
  | (go_at_call 64; (with_reducible refine (HA2.out _).mono ?_); rintro e5 W5 ⟨rfl, rfl⟩)
  | ((with_reducible refine gate_dst (N := 125) rfl ?_); refine wpList_load_part _ rfl (.tmp 124) 41 rfl g (4 + j * 4) (hC (x.hs j) (a j) (b j)) (by simp [Act.eval]) agg41 size41 109 _ HE.out.blk (WC_h j hj4) ?_)
  | (go_at_call 46; (with_reducible refine (HLt.out _ HE.out.out).mono ?_); rintro e6 W9 ⟨n1, n2, rfl, ⟨hm1, hm2⟩, hX6, hV6⟩; have HM1 := Lib.hid hm1; have HM2 := Lib.hid hm2; have HE9 := Lib.hid (HE.out.o hV6); have HRa := Lib.hid (HR.out.o hV6); clear hm1 hm2 hX6 hV6)
  | ((with_reducible refine gate_dst (N := 12) rfl ?_); refine box_event rfl (N := 12) rfl (cs := #[.int .i64 0, .int .i64 0, .map none, .map none]) (t := 41) ?hr ?_; (case hr => first | (go_simp; done) | (go_simp; rfl)); intro h hh W10 hbox hb; have HZ10 := Lib.hid (show Blk W10 h 41 _ from hbox); have hgh : g ≠ h := (by rw [hh]; exact Nat.ne_of_lt HE9.out.blk.lt); have hrh : r ≠ h := (by rw [hh]; exact Nat.ne_of_lt HRa.out.lt); have hhw : w.heap.size ≤ h := (by rw [hh]; exact HE9.out.out.size); have HE10 := Lib.hid (HE9.out.o (Out.of hb)); have HR10 := Lib.hid (HRa.out.o (Out.of hb)); have HM1 := Lib.hid (mapIs_out HM1.out (Out.of hb)); have HM2 := Lib.hid (mapIs_out HM2.out (Out.of hb)); clear hh hbox hb)
  | (refine wpList_store_part _ rfl (.tmp 12) (.tmp 128) 41 rfl h 0 (hC (letH (x.hs j) pl).1 n1 n2) rfl rfl size41 rfl 41 _ HZ10.out (Nat.le_refl _) (hC (letH (x.hs j) pl).1 n1 n2) rfl ?_; intro w11 hbz hfz; have HY11 := Lib.hid hbz; have HE11 := Lib.hid (HE10.out.away HZ10.out (by decide) hhw hgh hfz); have HR11 := Lib.hid (HR10.out.away hfz hrh); have HM1 := Lib.hid (mapIs_far HM1.out HZ10.out hfz); have HM2 := Lib.hid (mapIs_far HM2.out HZ10.out hfz); clear hbz hfz)
  | ((with_reducible refine gate_dst (N := 132) rfl ?_); refine wpList_load_part _ rfl (.tmp 12) 41 rfl h 0 (hC (letH (x.hs j) pl).1 n1 n2) rfl agg41 size41 41 _ HY11.out (fun k u hu => (by rw [Nat.zero_add]; simpa using hu)) ?_)
  | (refine wpList_store_part _ rfl (.tmp 134) (.tmp 132) 41 rfl g (4 + j * 4) (hC (letH (x.hs j) pl).1 n1 n2) (by simp [Act.eval]) rfl size41 rfl 109 _ HE11.out.blk hfit (WC { x with hs := setH x.hs j (letH (x.hs j) pl).1 } p m (updN a j n1) (updN b j n2) (.slice Aw x.way.length cw) term margin) (WC_setH j hj4 (letH (x.hs j) pl).1 n1 n2) ?_; intro w8 hbz hfz; have HR8 := Lib.hid (HR11.out.away hfz hgr.symm); have HE8 := Lib.hid (HE11.out.withH j HM1.out HM2.out hbz hfz); have g20b : w8.cell? ⟨g, 20, none⟩ = some (.slice Aw x.way.length cw) := HE8.out.blk.cell 20; clear hbz hfz)
  | ((with_reducible refine gate_dst (N := 143) rfl ?_); refine list_lit0 rfl rfl ?_; intro g0 hg0 W12 hR0 hO; have H0 := Lib.hid hR0; have hO12 := Lib.hid hO; have g20a : W12.cell? ⟨g, 20, none⟩ = some (.slice Aw x.way.length cw) := (HE8.out.o hO).blk.cell 20; clear hR0 hO hg0)
  | (at_builtin; refine list_app (V0 := w8) rfl (.tmp 143) (.tmp 145) rfl _ [] x.way x.way rfl Aw x.way.length cw rfl rfl H0.out (KW_C (KW_below HE8.out.wd.way hO12.out)).2.2 hO12.out (by have := HWl.out; simp; omega) ?_; intro A1 c1 w13 hR1 hO1 hg1; have H3 := Lib.hid hR1; have hO13 := Lib.hid hO1; clear hR1 hO1 hg1 g20a)
  | ((with_reducible refine gate_dst (N := 151) rfl ?_); refine list_lit1 rfl (.tmp 150) wd rfl (by rw [HWd.out]; rfl) ?_; intro g5 hg5 W14 hR5 hO5; have H5 := Lib.hid (Kd.R_lower hR5 hO13.out.size); have H3 := Lib.hid (KW_below H3.out hO5); have hO14 := Lib.hid (Out.thens hO13.out hO5); clear hR5 hO5 hg5)
  | (at_builtin; refine list_app (V0 := w8) rfl (.tmp 146) (.tmp 151) rfl _ x.way [wd] l3 HL3.out (some ⟨g5, 0, none⟩) 1 1 rfl rfl H3.out (KW_C H5.out).2.2 hO14.out (by have := HWl.out; omega) ?_; intro A2 c2 w15 hR2 hO2 hg2; have H6 := Lib.hid hR2; have HE15 := Lib.hid (HE8.out.o hO2); have HR15 := Lib.hid (HR8.out.o hO2); clear hR2 hO2 hg2)
  | (refine list_store_one _ rfl (.tmp 153) (.tmp 152) 107 rfl g 20 (.slice A2 l3.length c2) rfl rfl size107 rfl rfl 109 _ HE15.out.blk (by show 21 ≤ 24; omega) (WC { x with hs := setH x.hs j (letH (x.hs j) pl).1, way := l3 } p m (updN a j n1) (updN b j n2) (.slice A2 l3.length c2) term margin) rfl ?_; intro w16 hb16 hf16; have HE16 := Lib.hid (HE15.out.way2 (Kd.R_lower H6.out (Nat.le_trans HLow.out HE8.out.out.size)) hb16 hf16); have HR16 := Lib.hid (HR15.out.away hf16 hgr.symm); clear hb16 hf16)
  | ((with_reducible refine gate_dst (N := 177) rfl ?_); refine wpList_load_part _ rfl (.tmp 2) 109 rfl g 0 (WC { x with hs := setH x.hs j (letH (x.hs j) pl).1, way := l3 } p m (updN a j n1) (updN b j n2) (.slice A2 l3.length c2) term margin) rfl agg109 size109 109 _ HE16.out.blk (fun k u hu => (by rw [Nat.zero_add]; simpa using hu)) ?_)
  | (refine wpList_store_part _ rfl (.tmp 4) (.tmp 177) 109 rfl r 0 (WC { x with hs := setH x.hs j (letH (x.hs j) pl).1, way := l3 } p m (updN a j n1) (updN b j n2) (.slice A2 l3.length c2) term margin) rfl rfl size109 HE16.out.wd.one 109 _ HR16.out (Nat.le_refl _) (WC { x with hs := setH x.hs j (letH (x.hs j) pl).1, way := l3 } p m (updN a j n1) (updN b j n2) (.slice A2 l3.length c2) term margin) rfl ?_; intro w9 hbz hfz; have HR9 := Lib.hid hbz; have HE9 := Lib.hid (HE16.out.away HR16.out (by decide) hrw hgr hfz); clear hbz hfz)
  | fail)
  exact bodyPost_ret (results_blk1 Try.results51 _ _ r (WC { x with hs := setH x.hs j (letH (x.hs j) pl).1, way := l3 } p m (updN a j n1) (updN b j n2) (.slice A2 l3.length c2) term margin) rfl agg109 size109 HR9.out) rfl ⟨_, _, _, _, rfl, HE9.out.wd, Out.wide HE9.out.out⟩
set_option maxRecDepth 100000 in
set_option maxHeartbeats 16000000 in
theorem next5B (w : World) (lo p : Nat) (x : MW) (kind i place : Int) (j : Nat) (pl : Int) (m : Option Nat) (a b : Nat → Option Nat) (v : Value) (term margin : Int) (hk : Wd2 w lo p x m a b v) (hj : 1 ≤ j ∧ j ≤ 3 ∧ i % 3 = (j : Int) - 1) (hpl : place % 2 = pl) (hp : (Lit.int .i64 pl).wf = true) (hwl : x.way.length ≤ 300) (hkd : kind = 5) (hok : (letH (x.hs j) pl).2.2 = 0) (hc : ¬ x.way.length < 200) :
    Calls Try.prog 51 #[.agg (WC x p m a b v term margin), .agg (mC kind i place)] w (HandsT w lo p { x with hs := setH x.hs j (letH (x.hs j) pl).1 } term margin) := by
  obtain ⟨Aw, cw, rfl⟩ := Kd.R_slice hk.way
  obtain ⟨hj1, hj3, hj0⟩ := hj
  have HKW := Lib.hid hk
  have HKP := Lib.hid hp
  have HWl := Lib.hid hwl
  have HLow := Lib.hid hk.full
  have hj4 : j < 4 := by omega
  have hjI : (j : Int) < 4 := by omega
  have hjn : ¬ (j : Int) < 0 := by omega
  obtain ⟨j0, hj00⟩ : ∃ j0 : Nat, j = j0 + 1 := ⟨j - 1, by omega⟩
  have HA3 : Hid (∀ V, Calls Try.prog 64 #[.int .i64 i, .int .i64 3] V fun e w' => e = .returned (.int .i64 (j0 : Int)) ∧ V = w') := Lib.hid (fun V => by
    have h := at_any V i 3 (by omega) (by omega)
    rw [hj0, show (j : Int) - 1 = (j0 : Int) by omega] at h
    exact h)
  have HA2 : Hid (∀ V, Calls Try.prog 64 #[.int .i64 place, .int .i64 2] V fun e w' => e = .returned (.int .i64 pl) ∧ V = w') := Lib.hid (fun V => by
    have h := at_any V place 2 (by omega) (by omega)
    rw [hpl] at h
    exact h)
  have hjj : (1 : Int) + (j0 : Int) = (j : Int) := by omega
  have hu41 := Try.underlying41
  have hu57 := Try.underlying57
  have hu106 := Try.underlying106
  have hu107 := Try.underlying107
  have hu141 := Try.underlying141
  obtain ⟨ne, hne⟩ : ∃ ne, ne = (letH (x.hs j) pl).2.1 := ⟨_, rfl⟩
  have HG : Hid ((letH (x.hs j) pl) = ((letH (x.hs j) pl).1, ne, 0)) := Lib.hid (by rw [hne, ← hok])
  clear hok hne
  have hlen : ¬ (x.way.length : Int) < 200 := by omega
  clear hc
  have hfit : 4 + j * 4 + (hC (x.hs j) (a j) (b j)).size ≤ (WC x p m a b (.slice Aw x.way.length cw) term margin).size := (by show 4 + j * 4 + 4 ≤ 24; omega)
  have HLt : Hid (∀ V, Out w V → Calls Try.prog 46 #[.agg (hC (x.hs j) (a j) (b j)), .int .i64 pl] V fun e w' => ∃ n1 n2, e = .returned (.tuple #[.agg (hC (letH (x.hs j) pl).1 n1 n2), .int .i64 ne, .int .i64 0]) ∧ (MapIs pairE w' n1 (letH (x.hs j) pl).1.wants ∧ MapIs pairE w' n2 (letH (x.hs j) pl).1.has) ∧ Out w w' ∧ Out V w') := Lib.hid (fun V hX => letH_from hX (HKW.out.hw j) (HKW.out.hh j) rfl rfl rfl rfl HKP.out HG.out)
  clear hk hp hj0 hj00 hpl hwl
  go_enter Try.func51, Try.ntmps51
  go_wp2_with (first
  | ((with_reducible refine gate_dst (N := 2) rfl ?_); refine box_event rfl (N := 2) rfl (cs := (WC x p m a b (.slice Aw x.way.length cw) term margin)) (t := 109) ?hr ?_; (case hr => first | (go_simp; done) | (go_simp; rfl)); intro g hg W1 hbox hb; have HE1 : Hid (Ed w W1 g lo p x m a b (.slice Aw x.way.length cw) term margin) := Lib.hid ⟨hbox, HKW.out.kept (Out.of hb), Out.of hb, (by rw [hg]; exact Nat.le_refl _), HLow.out⟩; clear hg hbox hb)
  | ((with_reducible refine gate_dst (N := 3) rfl ?_); refine box_event rfl (N := 3) rfl (cs := mC kind i place) (t := 114) ?hr ?_; (case hr => first | (go_simp; done) | (go_simp; rfl)); intro q hq W2 hbox hb; have HQ2 := Lib.hid (show Blk W2 q 114 (mC kind i place) from hbox); have HE2 := Lib.hid (HE1.out.o (Out.of hb)); have hgq : g ≠ q := (by rw [hq]; exact Nat.ne_of_lt HE1.out.blk.lt); clear hq hbox hb)
  | ((with_reducible refine gate_dst (N := 4) rfl ?_); refine box_event rfl (N := 4) rfl (cs := Z24) (t := 109) ?hr ?_; (case hr => first | (go_simp; done) | (go_simp; rfl)); intro r hr W3 hbox hb; have HR := Lib.hid (show Blk W3 r 109 Z24 from hbox); have HE := Lib.hid (HE2.out.o (Out.of hb)); have HQ := Lib.hid (HQ2.out.o (Out.of hb)); have hgr : g ≠ r := (by rw [hr]; exact Nat.ne_of_lt HE2.out.blk.lt); have hrw : w.heap.size ≤ r := (by rw [hr]; exact HE2.out.out.size); have HNow : Hid (∀ V, Out W3 V → Calls Try.prog 21 #[.pointer (some ⟨p, 0, none⟩), .int .i64 (j : Int)] V fun e w' => e = .returned (.int .i64 (x.c.N j)) ∧ V = w') := Lib.hid (fun V hX => now_some V lo (lo + 4) p 4 x.c (HE.out.wd.kept hX).clk j (by decide) hj4); have q0 : W3.cell? ⟨q, 0, none⟩ = some (.int .i64 kind) := HQ.out.cell 0; have q1 : W3.cell? ⟨q, 1, none⟩ = some (.int .i64 i) := HQ.out.cell 1; have q2 : W3.cell? ⟨q, 2, none⟩ = some (.int .i64 place) := HQ.out.cell 2; (try rw [hkd] at q0); have g20 : W3.cell? ⟨g, 20, none⟩ = some (.slice Aw x.way.length cw) := HE.out.blk.cell 20; clear hr hbox hb HE1 HE2 HQ2)
  | (go_at_call 64; (with_reducible refine (HA3.out _).mono ?_); rintro e5 W5 ⟨rfl, rfl⟩)
  | (go_at_call 64; (with_reducible refine (HA2.out _).mono ?_); rintro e5 W5 ⟨rfl, rfl⟩)
  | ((with_reducible refine gate_dst (N := 125) rfl ?_); refine wpList_load_part _ rfl (.tmp 124) 41 rfl g (4 + j * 4) (hC (x.hs j) (a j) (b j)) (by simp [Act.eval]) agg41 size41 109 _ HE.out.blk (WC_h j hj4) ?_)
  | (go_at_call 46; (with_reducible refine (HLt.out _ HE.out.out).mono ?_); rintro e6 W9 ⟨n1, n2, rfl, ⟨hm1, hm2⟩, hX6, hV6⟩; have HM1 := Lib.hid hm1; have HM2 := Lib.hid hm2; have HE9 := Lib.hid (HE.out.o hV6); have HRa := Lib.hid (HR.out.o hV6); clear hm1 hm2 hX6 hV6)
  | ((with_reducible refine gate_dst (N := 12) rfl ?_); refine box_event rfl (N := 12) rfl (cs := #[.int .i64 0, .int .i64 0, .map none, .map none]) (t := 41) ?hr ?_; (case hr => first | (go_simp; done) | (go_simp; rfl)); intro h hh W10 hbox hb; have HZ10 := Lib.hid (show Blk W10 h 41 _ from hbox); have hgh : g ≠ h := (by rw [hh]; exact Nat.ne_of_lt HE9.out.blk.lt); have hrh : r ≠ h := (by rw [hh]; exact Nat.ne_of_lt HRa.out.lt); have hhw : w.heap.size ≤ h := (by rw [hh]; exact HE9.out.out.size); have HE10 := Lib.hid (HE9.out.o (Out.of hb)); have HR10 := Lib.hid (HRa.out.o (Out.of hb)); have HM1 := Lib.hid (mapIs_out HM1.out (Out.of hb)); have HM2 := Lib.hid (mapIs_out HM2.out (Out.of hb)); clear hh hbox hb)
  | (refine wpList_store_part _ rfl (.tmp 12) (.tmp 128) 41 rfl h 0 (hC (letH (x.hs j) pl).1 n1 n2) rfl rfl size41 rfl 41 _ HZ10.out (Nat.le_refl _) (hC (letH (x.hs j) pl).1 n1 n2) rfl ?_; intro w11 hbz hfz; have HY11 := Lib.hid hbz; have HE11 := Lib.hid (HE10.out.away HZ10.out (by decide) hhw hgh hfz); have HR11 := Lib.hid (HR10.out.away hfz hrh); have HM1 := Lib.hid (mapIs_far HM1.out HZ10.out hfz); have HM2 := Lib.hid (mapIs_far HM2.out HZ10.out hfz); clear hbz hfz)
  | ((with_reducible refine gate_dst (N := 132) rfl ?_); refine wpList_load_part _ rfl (.tmp 12) 41 rfl h 0 (hC (letH (x.hs j) pl).1 n1 n2) rfl agg41 size41 41 _ HY11.out (fun k u hu => (by rw [Nat.zero_add]; simpa using hu)) ?_)
  | (refine wpList_store_part _ rfl (.tmp 134) (.tmp 132) 41 rfl g (4 + j * 4) (hC (letH (x.hs j) pl).1 n1 n2) (by simp [Act.eval]) rfl size41 rfl 109 _ HE11.out.blk hfit (WC { x with hs := setH x.hs j (letH (x.hs j) pl).1 } p m (updN a j n1) (updN b j n2) (.slice Aw x.way.length cw) term margin) (WC_setH j hj4 (letH (x.hs j) pl).1 n1 n2) ?_; intro w8 hbz hfz; have HR8 := Lib.hid (HR11.out.away hfz hgr.symm); have HE8 := Lib.hid (HE11.out.withH j HM1.out HM2.out hbz hfz); have g20b : w8.cell? ⟨g, 20, none⟩ = some (.slice Aw x.way.length cw) := HE8.out.blk.cell 20; clear hbz hfz)
  | ((with_reducible refine gate_dst (N := 177) rfl ?_); refine wpList_load_part _ rfl (.tmp 2) 109 rfl g 0 (WC { x with hs := setH x.hs j (letH (x.hs j) pl).1 } p m (updN a j n1) (updN b j n2) (.slice Aw x.way.length cw) term margin) rfl agg109 size109 109 _ HE8.out.blk (fun k u hu => (by rw [Nat.zero_add]; simpa using hu)) ?_)
  | (refine wpList_store_part _ rfl (.tmp 4) (.tmp 177) 109 rfl r 0 (WC { x with hs := setH x.hs j (letH (x.hs j) pl).1 } p m (updN a j n1) (updN b j n2) (.slice Aw x.way.length cw) term margin) rfl rfl size109 HE8.out.wd.one 109 _ HR8.out (Nat.le_refl _) (WC { x with hs := setH x.hs j (letH (x.hs j) pl).1 } p m (updN a j n1) (updN b j n2) (.slice Aw x.way.length cw) term margin) rfl ?_; intro w9 hbz hfz; have HR9 := Lib.hid hbz; have HE9 := Lib.hid (HE8.out.away HR8.out (by decide) hrw hgr hfz); clear hbz hfz)
  | fail)
  exact bodyPost_ret (results_blk1 Try.results51 _ _ r (WC { x with hs := setH x.hs j (letH (x.hs j) pl).1 } p m (updN a j n1) (updN b j n2) (.slice Aw x.way.length cw) term margin) rfl agg109 size109 HR9.out) rfl ⟨_, _, _, _, rfl, HE9.out.wd, Out.wide HE9.out.out⟩
set_option maxRecDepth 100000 in
set_option maxHeartbeats 16000000 in
theorem next5C (w : World) (lo p : Nat) (x : MW) (kind i place : Int) (j : Nat) (pl : Int) (m : Option Nat) (a b : Nat → Option Nat) (v : Value) (term margin : Int) (hk : Wd2 w lo p x m a b v) (hj : 1 ≤ j ∧ j ≤ 3 ∧ i % 3 = (j : Int) - 1) (hpl : place % 2 = pl) (hp : (Lit.int .i64 pl).wf = true) (hwl : x.way.length ≤ 300) (hkd : kind = 5) (hok : (letH (x.hs j) pl).2.2 ≠ 0) :
    Calls Try.prog 51 #[.agg (WC x p m a b v term margin), .agg (mC kind i place)] w (HandsT w lo p { x with hs := setH x.hs j (letH (x.hs j) pl).1 } term margin) := by
  obtain ⟨Aw, cw, rfl⟩ := Kd.R_slice hk.way
  obtain ⟨hj1, hj3, hj0⟩ := hj
  have HKW := Lib.hid hk
  have HKP := Lib.hid hp
  have HWl := Lib.hid hwl
  have HLow := Lib.hid hk.full
  have hj4 : j < 4 := by omega
  have hjI : (j : Int) < 4 := by omega
  have hjn : ¬ (j : Int) < 0 := by omega
  obtain ⟨j0, hj00⟩ : ∃ j0 : Nat, j = j0 + 1 := ⟨j - 1, by omega⟩
  have HA3 : Hid (∀ V, Calls Try.prog 64 #[.int .i64 i, .int .i64 3] V fun e w' => e = .returned (.int .i64 (j0 : Int)) ∧ V = w') := Lib.hid (fun V => by
    have h := at_any V i 3 (by omega) (by omega)
    rw [hj0, show (j : Int) - 1 = (j0 : Int) by omega] at h
    exact h)
  have HA2 : Hid (∀ V, Calls Try.prog 64 #[.int .i64 place, .int .i64 2] V fun e w' => e = .returned (.int .i64 pl) ∧ V = w') := Lib.hid (fun V => by
    have h := at_any V place 2 (by omega) (by omega)
    rw [hpl] at h
    exact h)
  have hjj : (1 : Int) + (j0 : Int) = (j : Int) := by omega
  have hu41 := Try.underlying41
  have hu57 := Try.underlying57
  have hu106 := Try.underlying106
  have hu107 := Try.underlying107
  have hu141 := Try.underlying141
  obtain ⟨ne, hne⟩ : ∃ ne, ne = (letH (x.hs j) pl).2.1 := ⟨_, rfl⟩
  obtain ⟨ce, hce⟩ : ∃ ce, (letH (x.hs j) pl).2.2 = ce := ⟨_, rfl⟩
  have hce0 : (ce == 0) = false := beq_eq_false_iff_ne.2 (by rw [← hce]; exact hok)
  have HG : Hid ((letH (x.hs j) pl) = ((letH (x.hs j) pl).1, ne, ce)) := Lib.hid (by rw [hne, ← hce])
  clear hce hok hne
  have hfit : 4 + j * 4 + (hC (x.hs j) (a j) (b j)).size ≤ (WC x p m a b (.slice Aw x.way.length cw) term margin).size := (by show 4 + j * 4 + 4 ≤ 24; omega)
  have HLt : Hid (∀ V, Out w V → Calls Try.prog 46 #[.agg (hC (x.hs j) (a j) (b j)), .int .i64 pl] V fun e w' => ∃ n1 n2, e = .returned (.tuple #[.agg (hC (letH (x.hs j) pl).1 n1 n2), .int .i64 ne, .int .i64 ce]) ∧ (MapIs pairE w' n1 (letH (x.hs j) pl).1.wants ∧ MapIs pairE w' n2 (letH (x.hs j) pl).1.has) ∧ Out w w' ∧ Out V w') := Lib.hid (fun V hX => letH_from hX (HKW.out.hw j) (HKW.out.hh j) rfl rfl rfl rfl HKP.out HG.out)
  clear hk hp hj0 hj00 hpl hwl
  go_enter Try.func51, Try.ntmps51
  go_wp2_with (first
  | ((with_reducible refine gate_dst (N := 2) rfl ?_); refine box_event rfl (N := 2) rfl (cs := (WC x p m a b (.slice Aw x.way.length cw) term margin)) (t := 109) ?hr ?_; (case hr => first | (go_simp; done) | (go_simp; rfl)); intro g hg W1 hbox hb; have HE1 : Hid (Ed w W1 g lo p x m a b (.slice Aw x.way.length cw) term margin) := Lib.hid ⟨hbox, HKW.out.kept (Out.of hb), Out.of hb, (by rw [hg]; exact Nat.le_refl _), HLow.out⟩; clear hg hbox hb)
  | ((with_reducible refine gate_dst (N := 3) rfl ?_); refine box_event rfl (N := 3) rfl (cs := mC kind i place) (t := 114) ?hr ?_; (case hr => first | (go_simp; done) | (go_simp; rfl)); intro q hq W2 hbox hb; have HQ2 := Lib.hid (show Blk W2 q 114 (mC kind i place) from hbox); have HE2 := Lib.hid (HE1.out.o (Out.of hb)); have hgq : g ≠ q := (by rw [hq]; exact Nat.ne_of_lt HE1.out.blk.lt); clear hq hbox hb)
  | ((with_reducible refine gate_dst (N := 4) rfl ?_); refine box_event rfl (N := 4) rfl (cs := Z24) (t := 109) ?hr ?_; (case hr => first | (go_simp; done) | (go_simp; rfl)); intro r hr W3 hbox hb; have HR := Lib.hid (show Blk W3 r 109 Z24 from hbox); have HE := Lib.hid (HE2.out.o (Out.of hb)); have HQ := Lib.hid (HQ2.out.o (Out.of hb)); have hgr : g ≠ r := (by rw [hr]; exact Nat.ne_of_lt HE2.out.blk.lt); have hrw : w.heap.size ≤ r := (by rw [hr]; exact HE2.out.out.size); have HNow : Hid (∀ V, Out W3 V → Calls Try.prog 21 #[.pointer (some ⟨p, 0, none⟩), .int .i64 (j : Int)] V fun e w' => e = .returned (.int .i64 (x.c.N j)) ∧ V = w') := Lib.hid (fun V hX => now_some V lo (lo + 4) p 4 x.c (HE.out.wd.kept hX).clk j (by decide) hj4); have q0 : W3.cell? ⟨q, 0, none⟩ = some (.int .i64 kind) := HQ.out.cell 0; have q1 : W3.cell? ⟨q, 1, none⟩ = some (.int .i64 i) := HQ.out.cell 1; have q2 : W3.cell? ⟨q, 2, none⟩ = some (.int .i64 place) := HQ.out.cell 2; (try rw [hkd] at q0); have g20 : W3.cell? ⟨g, 20, none⟩ = some (.slice Aw x.way.length cw) := HE.out.blk.cell 20; clear hr hbox hb HE1 HE2 HQ2)
  | (go_at_call 64; (with_reducible refine (HA3.out _).mono ?_); rintro e5 W5 ⟨rfl, rfl⟩)
  | (go_at_call 64; (with_reducible refine (HA2.out _).mono ?_); rintro e5 W5 ⟨rfl, rfl⟩)
  | ((with_reducible refine gate_dst (N := 125) rfl ?_); refine wpList_load_part _ rfl (.tmp 124) 41 rfl g (4 + j * 4) (hC (x.hs j) (a j) (b j)) (by simp [Act.eval]) agg41 size41 109 _ HE.out.blk (WC_h j hj4) ?_)
  | (go_at_call 46; (with_reducible refine (HLt.out _ HE.out.out).mono ?_); rintro e6 W9 ⟨n1, n2, rfl, ⟨hm1, hm2⟩, hX6, hV6⟩; have HM1 := Lib.hid hm1; have HM2 := Lib.hid hm2; have HE9 := Lib.hid (HE.out.o hV6); have HRa := Lib.hid (HR.out.o hV6); clear hm1 hm2 hX6 hV6)
  | ((with_reducible refine gate_dst (N := 12) rfl ?_); refine box_event rfl (N := 12) rfl (cs := #[.int .i64 0, .int .i64 0, .map none, .map none]) (t := 41) ?hr ?_; (case hr => first | (go_simp; done) | (go_simp; rfl)); intro h hh W10 hbox hb; have HZ10 := Lib.hid (show Blk W10 h 41 _ from hbox); have hgh : g ≠ h := (by rw [hh]; exact Nat.ne_of_lt HE9.out.blk.lt); have hrh : r ≠ h := (by rw [hh]; exact Nat.ne_of_lt HRa.out.lt); have hhw : w.heap.size ≤ h := (by rw [hh]; exact HE9.out.out.size); have HE10 := Lib.hid (HE9.out.o (Out.of hb)); have HR10 := Lib.hid (HRa.out.o (Out.of hb)); have HM1 := Lib.hid (mapIs_out HM1.out (Out.of hb)); have HM2 := Lib.hid (mapIs_out HM2.out (Out.of hb)); clear hh hbox hb)
  | (refine wpList_store_part _ rfl (.tmp 12) (.tmp 128) 41 rfl h 0 (hC (letH (x.hs j) pl).1 n1 n2) rfl rfl size41 rfl 41 _ HZ10.out (Nat.le_refl _) (hC (letH (x.hs j) pl).1 n1 n2) rfl ?_; intro w11 hbz hfz; have HY11 := Lib.hid hbz; have HE11 := Lib.hid (HE10.out.away HZ10.out (by decide) hhw hgh hfz); have HR11 := Lib.hid (HR10.out.away hfz hrh); have HM1 := Lib.hid (mapIs_far HM1.out HZ10.out hfz); have HM2 := Lib.hid (mapIs_far HM2.out HZ10.out hfz); clear hbz hfz)
  | ((with_reducible refine gate_dst (N := 132) rfl ?_); refine wpList_load_part _ rfl (.tmp 12) 41 rfl h 0 (hC (letH (x.hs j) pl).1 n1 n2) rfl agg41 size41 41 _ HY11.out (fun k u hu => (by rw [Nat.zero_add]; simpa using hu)) ?_)
  | (refine wpList_store_part _ rfl (.tmp 134) (.tmp 132) 41 rfl g (4 + j * 4) (hC (letH (x.hs j) pl).1 n1 n2) (by simp [Act.eval]) rfl size41 rfl 109 _ HE11.out.blk hfit (WC { x with hs := setH x.hs j (letH (x.hs j) pl).1 } p m (updN a j n1) (updN b j n2) (.slice Aw x.way.length cw) term margin) (WC_setH j hj4 (letH (x.hs j) pl).1 n1 n2) ?_; intro w8 hbz hfz; have HR8 := Lib.hid (HR11.out.away hfz hgr.symm); have HE8 := Lib.hid (HE11.out.withH j HM1.out HM2.out hbz hfz); have g20b : w8.cell? ⟨g, 20, none⟩ = some (.slice Aw x.way.length cw) := HE8.out.blk.cell 20; clear hbz hfz)
  | ((with_reducible refine gate_dst (N := 177) rfl ?_); refine wpList_load_part _ rfl (.tmp 2) 109 rfl g 0 (WC { x with hs := setH x.hs j (letH (x.hs j) pl).1 } p m (updN a j n1) (updN b j n2) (.slice Aw x.way.length cw) term margin) rfl agg109 size109 109 _ HE8.out.blk (fun k u hu => (by rw [Nat.zero_add]; simpa using hu)) ?_)
  | (refine wpList_store_part _ rfl (.tmp 4) (.tmp 177) 109 rfl r 0 (WC { x with hs := setH x.hs j (letH (x.hs j) pl).1 } p m (updN a j n1) (updN b j n2) (.slice Aw x.way.length cw) term margin) rfl rfl size109 HE8.out.wd.one 109 _ HR8.out (Nat.le_refl _) (WC { x with hs := setH x.hs j (letH (x.hs j) pl).1 } p m (updN a j n1) (updN b j n2) (.slice Aw x.way.length cw) term margin) rfl ?_; intro w9 hbz hfz; have HR9 := Lib.hid hbz; have HE9 := Lib.hid (HE8.out.away HR8.out (by decide) hrw hgr hfz); clear hbz hfz)
  | fail)
  exact bodyPost_ret (results_blk1 Try.results51 _ _ r (WC { x with hs := setH x.hs j (letH (x.hs j) pl).1 } p m (updN a j n1) (updN b j n2) (.slice Aw x.way.length cw) term margin) rfl agg109 size109 HR9.out) rfl ⟨_, _, _, _, rfl, HE9.out.wd, Out.wide HE9.out.out⟩
end Go.Proofs.Ytefllgpehhlkoaa.Mar
namespace Go.Proofs.Ytefllgpehhlkoaa.Mar
open Go.RowKit Go.Maps Go.Proofs.YtefllgpehhlkoaaW.PrintWords Go.Proofs.YtefllgpehhlkoaaW.PrintLast
set_option linter.unusedVariables false
set_option linter.unusedSimpArgs false

set_option maxRecDepth 100000 in
set_option maxHeartbeats 16000000 in
theorem next1A (w : World) (lo p : Nat) (x : MW) (kind i place : Int) (j : Nat) (pl : Int) (m : Option Nat) (a b : Nat → Option Nat) (v : Value) (term margin : Int) (hk : Wd2 w lo p x m a b v) (hj : 1 ≤ j ∧ j ≤ 3 ∧ i % 3 = (j : Int) - 1) (hpl : place % 2 = pl) (hp : (Lit.int .i64 pl).wf = true) (hwl : x.way.length ≤ 300) (hkd : kind = 1) (hsz : (x.hs j).wants.length < 1000000) (hok : (askH (x.hs j) (x.c.N j) pl).2.2 = 0) (hc : x.way.length < 200) :
    Calls Try.prog 51 #[.agg (WC x p m a b v term margin), .agg (mC kind i place)] w (HandsT w lo p { x with hs := setH x.hs j (askH (x.hs j) (x.c.N j) pl).1, way := x.way ++ [⟨1, j, pl, (askH (x.hs j) (x.c.N j) pl).2.1, 0⟩] } term margin) := by
  obtain ⟨Aw, cw, rfl⟩ := Kd.R_slice hk.way
  obtain ⟨hj1, hj3, hj0⟩ := hj
  have HKW := Lib.hid hk
  have HKP := Lib.hid hp
  have HWl := Lib.hid hwl
  have HLow := Lib.hid hk.full
  have hj4 : j < 4 := by omega
  have hjI : (j : Int) < 4 := by omega
  have hjn : ¬ (j : Int) < 0 := by omega
  obtain ⟨j0, hj00⟩ : ∃ j0 : Nat, j = j0 + 1 := ⟨j - 1, by omega⟩
  have HA3 : Hid (∀ V, Calls Try.prog 64 #[.int .i64 i, .int .i64 3] V fun e w' => e = .returned (.int .i64 (j0 : Int)) ∧ V = w') := Lib.hid (fun V => by
    have h := at_any V i 3 (by omega) (by omega)
    rw [hj0, show (j : Int) - 1 = (j0 : Int) by omega] at h
    exact h)
  have HA2 : Hid (∀ V, Calls Try.prog 64 #[.int .i64 place, .int .i64 2] V fun e w' => e = .returned (.int .i64 pl) ∧ V = w') := Lib.hid (fun V => by
    have h := at_any V place 2 (by omega) (by omega)
    rw [hpl] at h
    exact h)
  have hjj : (1 : Int) + (j0 : Int) = (j : Int) := by omega
  have hu41 := Try.underlying41
  have hu57 := Try.underlying57
  have hu106 := Try.underlying106
  have hu107 := Try.underlying107
  have hu141 := Try.underlying141
  obtain ⟨ne, hne⟩ : ∃ ne, ne = (askH (x.hs j) (x.c.N j) pl).2.1 := ⟨_, rfl⟩
  rw [← hne]
  obtain ⟨wd, hwd⟩ : ∃ wd : Word, wd = ⟨1, j, pl, ne, 0⟩ := ⟨_, rfl⟩
  rw [← hwd]
  have HWd := Lib.hid hwd
  obtain ⟨l3, hl3⟩ : ∃ l3, x.way ++ [wd] = l3 := ⟨_, rfl⟩
  rw [hl3]
  have HL3 := Lib.hid hl3
  clear hwd hl3
  have HG : Hid ((askH (x.hs j) (x.c.N j) pl) = ((askH (x.hs j) (x.c.N j) pl).1, ne, 0)) := Lib.hid (by rw [hne, ← hok])
  clear hok hne
  have hlen : (x.way.length : Int) < 200 := by omega
  clear hc
  have hfit : 4 + j * 4 + (hC (x.hs j) (a j) (b j)).size ≤ (WC x p m a b (.slice Aw x.way.length cw) term margin).size := (by show 4 + j * 4 + 4 ≤ 24; omega)
  have HSz := Lib.hid hsz
  clear hsz
  clear hk hp hj0 hj00 hpl hwl
  go_enter Try.func51, Try.ntmps51
  go_wp2_with (first
  | ((with_reducible refine gate_dst (N := 2) rfl ?_); refine box_event rfl (N := 2) rfl (cs := (WC x p m a b (.slice Aw x.way.length cw) term margin)) (t := 109) ?hr ?_; (case hr => first | (go_simp; done) | (go_simp; rfl)); intro g hg W1 hbox hb; have HE1 : Hid (Ed w W1 g lo p x m a b (.slice Aw x.way.length cw) term margin) := Lib.hid ⟨hbox, HKW.out.kept (Out.of hb), Out.of hb, (by rw [hg]; exact Nat.le_refl _), HLow.out⟩; clear hg hbox hb)
  | ((with_reducible refine gate_dst (N := 3) rfl ?_); refine box_event rfl (N := 3) rfl (cs := mC kind i place) (t := 114) ?hr ?_; (case hr => first | (go_simp; done) | (go_simp; rfl)); intro q hq W2 hbox hb; have HQ2 := Lib.hid (show Blk W2 q 114 (mC kind i place) from hbox); have HE2 := Lib.hid (HE1.out.o (Out.of hb)); have hgq : g ≠ q := (by rw [hq]; exact Nat.ne_of_lt HE1.out.blk.lt); clear hq hbox hb)
  | ((with_reducible refine gate_dst (N := 4) rfl ?_); refine box_event rfl (N := 4) rfl (cs := Z24) (t := 109) ?hr ?_; (case hr => first | (go_simp; done) | (go_simp; rfl)); intro r hr W3 hbox hb; have HR := Lib.hid (show Blk W3 r 109 Z24 from hbox); have HE := Lib.hid (HE2.out.o (Out.of hb)); have HQ := Lib.hid (HQ2.out.o (Out.of hb)); have hgr : g ≠ r := (by rw [hr]; exact Nat.ne_of_lt HE2.out.blk.lt); have hrw : w.heap.size ≤ r := (by rw [hr]; exact HE2.out.out.size); have HNow : Hid (∀ V, Out W3 V → Calls Try.prog 21 #[.pointer (some ⟨p, 0, none⟩), .int .i64 (j : Int)] V fun e w' => e = .returned (.int .i64 (x.c.N j)) ∧ V = w') := Lib.hid (fun V hX => now_some V lo (lo + 4) p 4 x.c (HE.out.wd.kept hX).clk j (by decide) hj4); have q0 : W3.cell? ⟨q, 0, none⟩ = some (.int .i64 kind) := HQ.out.cell 0; have q1 : W3.cell? ⟨q, 1, none⟩ = some (.int .i64 i) := HQ.out.cell 1; have q2 : W3.cell? ⟨q, 2, none⟩ = some (.int .i64 place) := HQ.out.cell 2; (try rw [hkd] at q0); have g20 : W3.cell? ⟨g, 20, none⟩ = some (.slice Aw x.way.length cw) := HE.out.blk.cell 20; clear hr hbox hb HE1 HE2 HQ2)
  | (go_at_call 64; (with_reducible refine (HA3.out _).mono ?_); rintro e5 W5 ⟨rfl, rfl⟩)
  | (go_at_call 64; (with_reducible refine (HA2.out _).mono ?_); rintro e5 W5 ⟨rfl, rfl⟩)
  | fail)
  have HAsk : Hid (∀ V, Out W3 V → Calls Try.prog 26 #[.agg (hC (x.hs j) (a j) (b j)), .int .i64 (x.c.N j), .int .i64 pl] V fun e w' => ∃ n1 n2, e = .returned (.tuple #[.agg (hC (askH (x.hs j) (x.c.N j) pl).1 n1 n2), .int .i64 ne, .int .i64 0]) ∧ (MapIs pairE w' n1 (askH (x.hs j) (x.c.N j) pl).1.wants ∧ MapIs pairE w' n2 (askH (x.hs j) (x.c.N j) pl).1.has) ∧ Out W3 w' ∧ Out V w') := Lib.hid (fun V hX => ask_from hX (HE.out.wd.hw j) (HE.out.wd.hh j) rfl rfl rfl rfl HKP.out HSz.out HG.out)
  have HS3 := Lib.hid HE.out.out.size
  refine start_ (n := 18) (S := fun W' => Blk W' g 109 (WC x p m a b (.slice Aw x.way.length cw) term margin) ∧ Blk W' q 114 (mC kind i place) ∧ Out W3 W') (ds := [15]) #[false, false, false, false, false, false, false, false, false, false, false, false, false, false, false, false, false, false] (by kernel_rfl) rfl rfl (⟨HE.out.blk.drew, HQ.out.drew, (Only.refl _ _ _).drew⟩) (fun hHeld => ?_)
  refine pure_ (i := 0) (N := some 35) (v := ?_) (a' := ?_) #[true, false, false, false, false, false, false, false, false, false, false, false, false, false, false, false, false, false] rfl rfl (by kernel_rfl) (fun _ _ _ h => h) (Or.inl ⟨by rfl, ?_⟩) ?_ ?_
  rotate_left
  · intro w'
    go_simp
    (try with_reducible rfl)
  rotate_left
  · simp only [Act.put, List.setIfInBounds_toArray, List.set_cons_zero, List.set_cons_succ]
    rfl
  refine pure_ (i := 1) (N := some 36) (v := ?_) (a' := ?_) #[true, true, false, false, false, false, false, false, false, false, false, false, false, false, false, false, false, false] rfl rfl (by kernel_rfl) (fun _ _ _ h => h) (Or.inl ⟨by rfl, ?_⟩) ?_ ?_
  rotate_left
  · intro w'
    go_simp
    (try with_reducible rfl)
  rotate_left
  · simp only [Act.put, List.setIfInBounds_toArray, List.set_cons_zero, List.set_cons_succ]
    rfl
  refine pure_ (i := 2) (N := some 37) (v := ?_) (a' := ?_) #[true, true, true, false, false, false, false, false, false, false, false, false, false, false, false, false, false, false] rfl rfl (by kernel_rfl) (fun _ _ _ h => h) (Or.inl ⟨by rfl, ?_⟩) ?_ ?_
  rotate_left
  · intro w'
    go_simp
    (try with_reducible rfl)
  rotate_left
  · simp only [Act.put, List.setIfInBounds_toArray, List.set_cons_zero, List.set_cons_succ]
    rfl
  refine pure_ (i := 4) (N := some 39) (v := ?_) (a' := ?_) #[true, true, true, false, true, false, false, false, false, false, false, false, false, false, false, false, false, false] rfl rfl (by kernel_rfl) (fun _ _ _ h => h) (Or.inl ⟨by rfl, ?_⟩) ?_ ?_
  rotate_left
  · intro w'
    go_simp
    (try with_reducible rfl)
  rotate_left
  · simp only [Act.put, List.setIfInBounds_toArray, List.set_cons_zero, List.set_cons_succ]
    rfl
  refine pure_ (i := 6) (N := some 41) (v := ?_) (a' := ?_) #[true, true, true, false, true, false, true, false, false, false, false, false, false, false, false, false, false, false] rfl rfl (by kernel_rfl) (fun _ _ _ h => h) (Or.inl ⟨by rfl, ?_⟩) ?_ ?_
  rotate_left
  · intro w'
    go_simp
    (try with_reducible rfl)
  rotate_left
  · simp only [Act.put, List.setIfInBounds_toArray, List.set_cons_zero, List.set_cons_succ]
    rfl
  refine pure_ (i := 8) (N := some 43) (v := ?_) (a' := ?_) #[true, true, true, false, true, false, true, false, true, false, false, false, false, false, false, false, false, false] rfl rfl (by kernel_rfl) (fun _ _ _ h => h) (Or.inl ⟨by rfl, ?_⟩) ?_ ?_
  rotate_left
  · intro w'
    go_simp
    (try with_reducible rfl)
  rotate_left
  · simp only [Act.put, List.setIfInBounds_toArray, List.set_cons_zero, List.set_cons_succ]
    rfl
  refine take_ (i := 3) (N := some 38) (v := ?_) (a' := ?_) #[true, true, true, true, true, false, true, false, true, false, false, false, false, false, false, false, false, false] rfl rfl (by kernel_rfl) (fun _ _ _ h => h) (Or.inl ⟨by rfl, ?_⟩) hHeld ?_ ?_
  rotate_left
  · intro w' s0
    obtain ⟨t1, t2, t3⟩ := s0
    refine exec_load_part _ (.tmp 37) 41 ?_ g (4 + j * 4) (hC (x.hs j) (a j) (b j)) ?_ agg41 size41 109 _ t1 ?_
    · rfl
    · (first | rfl | (simp [Act.eval]))
    · exact WC_h j hj4
  rotate_left
  · simp only [Act.put, List.setIfInBounds_toArray, List.set_cons_zero, List.set_cons_succ]
    rfl
  refine take_ (i := 5) (N := some 40) (v := ?_) (a' := ?_) #[true, true, true, true, true, true, true, false, true, false, false, false, false, false, false, false, false, false] rfl rfl (by kernel_rfl) (fun _ _ _ h => h) (Or.inl ⟨by rfl, ?_⟩) hHeld ?_ ?_
  rotate_left
  · intro w' s0
    obtain ⟨t1, t2, t3⟩ := s0
    have c0 : w'.cell? ⟨g, 0, none⟩ = some (.pointer (some ⟨p, 0, none⟩)) := t1.cell 0
    go_simp
    (try with_reducible rfl)
  rotate_left
  · simp only [Act.put, List.setIfInBounds_toArray, List.set_cons_zero, List.set_cons_succ]
    rfl
  refine wpAnyLast_ready (rs := [7, 14]) (by kernel_rfl) (by simp) ?_
  refine AllReadyL.cons (o := ⟨some 42, Go.Op.call ⟨Go.Callee.value (Go.Operand.func 21), #[Go.Operand.tmp 40, Go.Operand.tmp 41], #[24, 3]⟩, 3, "outright.go:78", #[⟨5, Go.Ground.data⟩, ⟨6, Go.Ground.data⟩], none⟩) rfl (by decide) (fun K hK => ?_) ?_
  focus
    rw [if_pos (by rfl)]
    go_simp
    (go_at_call 21; (with_reducible refine (HNow.out _ hHeld.2.2).mono ?_); rintro e5 W5 ⟨rfl, rfl⟩)
    refine hK.out _ _ (hHeld) (fun hHeld => ?_)
    clear hK K
    try simp only [Act.put, List.setIfInBounds_toArray, List.set_cons_zero, List.set_cons_succ]
    refine wpAnyLast_ready (rs := [9, 14]) (by kernel_rfl) (by simp) ?_
    refine AllReadyL.cons (o := ⟨some 44, Go.Op.call ⟨Go.Callee.value (Go.Operand.func 26), #[Go.Operand.tmp 38, Go.Operand.tmp 42, Go.Operand.tmp 43], #[41, 3, 3]⟩, 42, "outright.go:78", #[⟨3, Go.Ground.data⟩, ⟨7, Go.Ground.data⟩, ⟨8, Go.Ground.data⟩, ⟨7, Go.Ground.chain⟩], none⟩) rfl (by decide) (fun K hK => ?_) ?_
    focus
      rw [if_pos (by rfl)]
      go_simp
      (go_at_call 26; (with_reducible refine (HAsk.out _ hHeld.2.2).mono ?_); rintro e6 W9 ⟨n1, n2, rfl, ⟨hm1, hm2⟩, hX6, hV6⟩; have HM1 := Lib.hid hm1; have HM2 := Lib.hid hm2; clear hm1 hm2; (try have HZ := Lib.hid (HZ.out.o hV6)))
      refine hK.out _ _ (⟨hHeld.1.o hV6, hHeld.2.1.o hV6, hX6⟩) (fun hHeld => ?_)
      clear hK K
      try simp only [Act.put, List.setIfInBounds_toArray, List.set_cons_zero, List.set_cons_succ]
      refine pure_ (i := 10) (N := some 34) (v := ?_) (a' := ?_) #[true, true, true, true, true, true, true, true, true, true, true, false, false, false, false, false, false, false] rfl rfl (by kernel_rfl) (fun _ _ _ h => h) (Or.inl ⟨by rfl, ?_⟩) ?_ ?_
      rotate_left
      · intro w'
        go_simp
        (try with_reducible rfl)
      rotate_left
      · simp only [Act.put, List.setIfInBounds_toArray, List.set_cons_zero, List.set_cons_succ]
        rfl
      refine pure_ (i := 11) (N := some 45) (v := ?_) (a' := ?_) #[true, true, true, true, true, true, true, true, true, true, true, true, false, false, false, false, false, false] rfl rfl (by kernel_rfl) (fun _ _ _ h => h) (Or.inl ⟨by rfl, ?_⟩) ?_ ?_
      rotate_left
      · intro w'
        go_simp
        (try with_reducible rfl)
      rotate_left
      · simp only [Act.put, List.setIfInBounds_toArray, List.set_cons_zero, List.set_cons_succ]
        rfl
      refine pure_ (i := 12) (N := some 46) (v := ?_) (a' := ?_) #[true, true, true, true, true, true, true, true, true, true, true, true, true, false, false, false, false, false] rfl rfl (by kernel_rfl) (fun _ _ _ h => h) (Or.inl ⟨by rfl, ?_⟩) ?_ ?_
      rotate_left
      · intro w'
        go_simp
        (try with_reducible rfl)
      rotate_left
      · simp only [Act.put, List.setIfInBounds_toArray, List.set_cons_zero, List.set_cons_succ]
        rfl
      refine pure_ (i := 13) (N := some 47) (v := ?_) (a' := ?_) #[true, true, true, true, true, true, true, true, true, true, true, true, true, true, false, false, false, false] rfl rfl (by kernel_rfl) (fun _ _ _ h => h) (Or.inl ⟨by rfl, ?_⟩) ?_ ?_
      rotate_left
      · intro w'
        go_simp
        (try with_reducible rfl)
      rotate_left
      · simp only [Act.put, List.setIfInBounds_toArray, List.set_cons_zero, List.set_cons_succ]
        rfl
      refine one_ (i := 14) (N := some 7) (oi := ⟨some 7, Go.Op.alloc 41, 0, "outright.go:78", #[], none⟩) #[true, true, true, true, true, true, true, true, true, true, true, true, true, true, true, false, false, false] rfl rfl (by kernel_rfl) (by decide) (fun K hK => ?_)
      refine step_alloc (by rfl) rfl (cs := #[.int .i64 0, .int .i64 0, .map none, .map none]) (t := 41) ?hr ?_
      (case hr => first | (go_simp; done) | (go_simp; rfl))
      intro h hh W7 hbox hO
      have HZ := Lib.hid hbox
      have hne : g ≠ h := (by rw [hh]; exact Nat.ne_of_lt hHeld.1.lt)
      have hge : W3.heap.size ≤ h := (by rw [hh]; exact hHeld.2.2.size)
      (try have HM1 := Lib.hid (mapIs_out HM1.out hO)); (try have HM2 := Lib.hid (mapIs_out HM2.out hO))
      clear hh hbox
      refine hK.out _ _ (⟨hHeld.1.o hO, hHeld.2.1.o hO, hHeld.2.2.thens hO⟩) (fun hHeld => ?_)
      clear hK K
      try simp only [Act.put, List.setIfInBounds_toArray, List.set_cons_zero, List.set_cons_succ]
      refine last_ (i := 15) (N := none) (oi := ⟨none, Go.Op.store 41 (Go.Operand.tmp 7) (Go.Operand.tmp 45), 0, "outright.go:78", #[⟨14, Go.Ground.data⟩, ⟨11, Go.Ground.data⟩, ⟨9, Go.Ground.chain⟩, ⟨0, Go.Ground.phase⟩, ⟨1, Go.Ground.phase⟩, ⟨2, Go.Ground.phase⟩, ⟨3, Go.Ground.phase⟩, ⟨4, Go.Ground.phase⟩, ⟨5, Go.Ground.phase⟩, ⟨6, Go.Ground.phase⟩, ⟨7, Go.Ground.phase⟩, ⟨8, Go.Ground.phase⟩, ⟨9, Go.Ground.phase⟩, ⟨10, Go.Ground.phase⟩, ⟨11, Go.Ground.phase⟩, { on := 12, ground := Go.Ground.textOnly Go.Departure.lateStores }, { on := 13, ground := Go.Ground.textOnly Go.Departure.lateStores }, ⟨14, Go.Ground.phase⟩], none⟩) #[true, true, true, true, true, true, true, true, true, true, true, true, true, true, true, true, false, false] rfl rfl (by kernel_rfl) (by decide) (fun K hK => ?_)
      refine step_store_part _ (by rfl) rfl (.tmp 7) (.tmp 45) 41 rfl h 0 ((hC (askH (x.hs j) (x.c.N j) pl).1 n1 n2)) rfl rfl size41 rfl 41 _ HZ.out (Nat.le_refl _) ((hC (askH (x.hs j) (x.c.N j) pl).1 n1 n2)) rfl ?_
      intro w7 hb7 hfr
      have HY7 := Lib.hid hb7
      have HE7 := Lib.hid ((HE.out.o hHeld.2.2).away HZ.out (by decide) (Nat.le_trans HS3.out hge) hne hfr)
      have HR7 := Lib.hid ((HR.out.o hHeld.2.2).away hfr (Nat.ne_of_lt (Nat.lt_of_lt_of_le HR.out.lt hge)))
      have HM1 := Lib.hid (mapIs_far HM1.out HZ.out hfr)
      have HM2 := Lib.hid (mapIs_far HM2.out HZ.out hfr)
      clear hb7 hfr hHeld
      refine hK.out _ _ ?_
      clear hK K
      try simp only [Act.put, List.setIfInBounds_toArray, List.set_cons_zero, List.set_cons_succ]
      refine pure_ (i := 16) (N := some 8) (v := ?_) (a' := ?_) #[true, true, true, true, true, true, true, true, true, true, true, true, true, true, true, true, true, false] rfl rfl (by kernel_rfl) (fun _ _ _ h => h) (Or.inl ⟨by rfl, ?_⟩) ?_ ?_
      rotate_left
      · intro w'
        go_simp
        (try with_reducible rfl)
      rotate_left
      · simp only [Act.put, List.setIfInBounds_toArray, List.set_cons_zero, List.set_cons_succ]
        rfl
      refine pure_ (i := 17) (N := some 9) (v := ?_) (a' := ?_) #[true, true, true, true, true, true, true, true, true, true, true, true, true, true, true, true, true, true] rfl rfl (by kernel_rfl) (fun _ _ _ h => h) (Or.inl ⟨by rfl, ?_⟩) ?_ ?_
      rotate_left
      · intro w'
        go_simp
        (try with_reducible rfl)
      rotate_left
      · simp only [Act.put, List.setIfInBounds_toArray, List.set_cons_zero, List.set_cons_succ]
        rfl
      refine done_ (by kernel_rfl) ?_
    rotate_left 1
    refine AllReadyL.cons (o := ⟨some 7, Go.Op.alloc 41, 0, "outright.go:78", #[], none⟩) rfl (by decide) (fun K hK => ?_) ?_
    focus
      refine step_alloc (by rfl) rfl (cs := #[.int .i64 0, .int .i64 0, .map none, .map none]) (t := 41) ?hr ?_
      (case hr => first | (go_simp; done) | (go_simp; rfl))
      intro h hh W7 hbox hO
      have HZ := Lib.hid hbox
      have hne : g ≠ h := (by rw [hh]; exact Nat.ne_of_lt hHeld.1.lt)
      have hge : W3.heap.size ≤ h := (by rw [hh]; exact hHeld.2.2.size)
      (try have HM1 := Lib.hid (mapIs_out HM1.out hO)); (try have HM2 := Lib.hid (mapIs_out HM2.out hO))
      clear hh hbox
      refine hK.out _ _ (⟨hHeld.1.o hO, hHeld.2.1.o hO, hHeld.2.2.thens hO⟩) (fun hHeld => ?_)
      clear hK K
      try simp only [Act.put, List.setIfInBounds_toArray, List.set_cons_zero, List.set_cons_succ]
      refine one_ (i := 9) (N := some 44) (oi := ⟨some 44, Go.Op.call ⟨Go.Callee.value (Go.Operand.func 26), #[Go.Operand.tmp 38, Go.Operand.tmp 42, Go.Operand.tmp 43], #[41, 3, 3]⟩, 42, "outright.go:78", #[⟨3, Go.Ground.data⟩, ⟨7, Go.Ground.data⟩, ⟨8, Go.Ground.data⟩, ⟨7, Go.Ground.chain⟩], none⟩) #[true, true, true, true, true, true, true, true, true, true, false, false, false, false, true, false, false, false] rfl rfl (by kernel_rfl) (by decide) (fun K hK => ?_)
      rw [if_pos (by rfl)]
      go_simp
      (go_at_call 26; (with_reducible refine (HAsk.out _ hHeld.2.2).mono ?_); rintro e6 W9 ⟨n1, n2, rfl, ⟨hm1, hm2⟩, hX6, hV6⟩; have HM1 := Lib.hid hm1; have HM2 := Lib.hid hm2; clear hm1 hm2; (try have HZ := Lib.hid (HZ.out.o hV6)))
      refine hK.out _ _ (⟨hHeld.1.o hV6, hHeld.2.1.o hV6, hX6⟩) (fun hHeld => ?_)
      clear hK K
      try simp only [Act.put, List.setIfInBounds_toArray, List.set_cons_zero, List.set_cons_succ]
      refine pure_ (i := 10) (N := some 34) (v := ?_) (a' := ?_) #[true, true, true, true, true, true, true, true, true, true, true, false, false, false, true, false, false, false] rfl rfl (by kernel_rfl) (fun _ _ _ h => h) (Or.inl ⟨by rfl, ?_⟩) ?_ ?_
      rotate_left
      · intro w'
        go_simp
        (try with_reducible rfl)
      rotate_left
      · simp only [Act.put, List.setIfInBounds_toArray, List.set_cons_zero, List.set_cons_succ]
        rfl
      refine pure_ (i := 11) (N := some 45) (v := ?_) (a' := ?_) #[true, true, true, true, true, true, true, true, true, true, true, true, false, false, true, false, false, false] rfl rfl (by kernel_rfl) (fun _ _ _ h => h) (Or.inl ⟨by rfl, ?_⟩) ?_ ?_
      rotate_left
      · intro w'
        go_simp
        (try with_reducible rfl)
      rotate_left
      · simp only [Act.put, List.setIfInBounds_toArray, List.set_cons_zero, List.set_cons_succ]
        rfl
      refine pure_ (i := 12) (N := some 46) (v := ?_) (a' := ?_) #[true, true, true, true, true, true, true, true, true, true, true, true, true, false, true, false, false, false] rfl rfl (by kernel_rfl) (fun _ _ _ h => h) (Or.inl ⟨by rfl, ?_⟩) ?_ ?_
      rotate_left
      · intro w'
        go_simp
        (try with_reducible rfl)
      rotate_left
      · simp only [Act.put, List.setIfInBounds_toArray, List.set_cons_zero, List.set_cons_succ]
        rfl
      refine pure_ (i := 13) (N := some 47) (v := ?_) (a' := ?_) #[true, true, true, true, true, true, true, true, true, true, true, true, true, true, true, false, false, false] rfl rfl (by kernel_rfl) (fun _ _ _ h => h) (Or.inl ⟨by rfl, ?_⟩) ?_ ?_
      rotate_left
      · intro w'
        go_simp
        (try with_reducible rfl)
      rotate_left
      · simp only [Act.put, List.setIfInBounds_toArray, List.set_cons_zero, List.set_cons_succ]
        rfl
      refine last_ (i := 15) (N := none) (oi := ⟨none, Go.Op.store 41 (Go.Operand.tmp 7) (Go.Operand.tmp 45), 0, "outright.go:78", #[⟨14, Go.Ground.data⟩, ⟨11, Go.Ground.data⟩, ⟨9, Go.Ground.chain⟩, ⟨0, Go.Ground.phase⟩, ⟨1, Go.Ground.phase⟩, ⟨2, Go.Ground.phase⟩, ⟨3, Go.Ground.phase⟩, ⟨4, Go.Ground.phase⟩, ⟨5, Go.Ground.phase⟩, ⟨6, Go.Ground.phase⟩, ⟨7, Go.Ground.phase⟩, ⟨8, Go.Ground.phase⟩, ⟨9, Go.Ground.phase⟩, ⟨10, Go.Ground.phase⟩, ⟨11, Go.Ground.phase⟩, { on := 12, ground := Go.Ground.textOnly Go.Departure.lateStores }, { on := 13, ground := Go.Ground.textOnly Go.Departure.lateStores }, ⟨14, Go.Ground.phase⟩], none⟩) #[true, true, true, true, true, true, true, true, true, true, true, true, true, true, true, true, false, false] rfl rfl (by kernel_rfl) (by decide) (fun K hK => ?_)
      refine step_store_part _ (by rfl) rfl (.tmp 7) (.tmp 45) 41 rfl h 0 ((hC (askH (x.hs j) (x.c.N j) pl).1 n1 n2)) rfl rfl size41 rfl 41 _ HZ.out (Nat.le_refl _) ((hC (askH (x.hs j) (x.c.N j) pl).1 n1 n2)) rfl ?_
      intro w7 hb7 hfr
      have HY7 := Lib.hid hb7
      have HE7 := Lib.hid ((HE.out.o hHeld.2.2).away HZ.out (by decide) (Nat.le_trans HS3.out hge) hne hfr)
      have HR7 := Lib.hid ((HR.out.o hHeld.2.2).away hfr (Nat.ne_of_lt (Nat.lt_of_lt_of_le HR.out.lt hge)))
      have HM1 := Lib.hid (mapIs_far HM1.out HZ.out hfr)
      have HM2 := Lib.hid (mapIs_far HM2.out HZ.out hfr)
      clear hb7 hfr hHeld
      refine hK.out _ _ ?_
      clear hK K
      try simp only [Act.put, List.setIfInBounds_toArray, List.set_cons_zero, List.set_cons_succ]
      refine pure_ (i := 16) (N := some 8) (v := ?_) (a' := ?_) #[true, true, true, true, true, true, true, true, true, true, true, true, true, true, true, true, true, false] rfl rfl (by kernel_rfl) (fun _ _ _ h => h) (Or.inl ⟨by rfl, ?_⟩) ?_ ?_
      rotate_left
      · intro w'
        go_simp
        (try with_reducible rfl)
      rotate_left
      · simp only [Act.put, List.setIfInBounds_toArray, List.set_cons_zero, List.set_cons_succ]
        rfl
      refine pure_ (i := 17) (N := some 9) (v := ?_) (a' := ?_) #[true, true, true, true, true, true, true, true, true, true, true, true, true, true, true, true, true, true] rfl rfl (by kernel_rfl) (fun _ _ _ h => h) (Or.inl ⟨by rfl, ?_⟩) ?_ ?_
      rotate_left
      · intro w'
        go_simp
        (try with_reducible rfl)
      rotate_left
      · simp only [Act.put, List.setIfInBounds_toArray, List.set_cons_zero, List.set_cons_succ]
        rfl
      refine done_ (by kernel_rfl) ?_
    rotate_left 1
    exact AllReadyL.nil
  rotate_left 2
  refine AllReadyL.cons (o := ⟨some 7, Go.Op.alloc 41, 0, "outright.go:78", #[], none⟩) rfl (by decide) (fun K hK => ?_) ?_
  focus
    refine step_alloc (by rfl) rfl (cs := #[.int .i64 0, .int .i64 0, .map none, .map none]) (t := 41) ?hr ?_
    (case hr => first | (go_simp; done) | (go_simp; rfl))
    intro h hh W7 hbox hO
    have HZ := Lib.hid hbox
    have hne : g ≠ h := (by rw [hh]; exact Nat.ne_of_lt hHeld.1.lt)
    have hge : W3.heap.size ≤ h := (by rw [hh]; exact hHeld.2.2.size)
    (try have HM1 := Lib.hid (mapIs_out HM1.out hO)); (try have HM2 := Lib.hid (mapIs_out HM2.out hO))
    clear hh hbox
    refine hK.out _ _ (⟨hHeld.1.o hO, hHeld.2.1.o hO, hHeld.2.2.thens hO⟩) (fun hHeld => ?_)
    clear hK K
    try simp only [Act.put, List.setIfInBounds_toArray, List.set_cons_zero, List.set_cons_succ]
    refine one_ (i := 7) (N := some 42) (oi := ⟨some 42, Go.Op.call ⟨Go.Callee.value (Go.Operand.func 21), #[Go.Operand.tmp 40, Go.Operand.tmp 41], #[24, 3]⟩, 3, "outright.go:78", #[⟨5, Go.Ground.data⟩, ⟨6, Go.Ground.data⟩], none⟩) #[true, true, true, true, true, true, true, true, true, false, false, false, false, false, true, false, false, false] rfl rfl (by kernel_rfl) (by decide) (fun K hK => ?_)
    rw [if_pos (by rfl)]
    go_simp
    (go_at_call 21; (with_reducible refine (HNow.out _ hHeld.2.2).mono ?_); rintro e5 W5 ⟨rfl, rfl⟩)
    refine hK.out _ _ (hHeld) (fun hHeld => ?_)
    clear hK K
    try simp only [Act.put, List.setIfInBounds_toArray, List.set_cons_zero, List.set_cons_succ]
    refine one_ (i := 9) (N := some 44) (oi := ⟨some 44, Go.Op.call ⟨Go.Callee.value (Go.Operand.func 26), #[Go.Operand.tmp 38, Go.Operand.tmp 42, Go.Operand.tmp 43], #[41, 3, 3]⟩, 42, "outright.go:78", #[⟨3, Go.Ground.data⟩, ⟨7, Go.Ground.data⟩, ⟨8, Go.Ground.data⟩, ⟨7, Go.Ground.chain⟩], none⟩) #[true, true, true, true, true, true, true, true, true, true, false, false, false, false, true, false, false, false] rfl rfl (by kernel_rfl) (by decide) (fun K hK => ?_)
    rw [if_pos (by rfl)]
    go_simp
    (go_at_call 26; (with_reducible refine (HAsk.out _ hHeld.2.2).mono ?_); rintro e6 W9 ⟨n1, n2, rfl, ⟨hm1, hm2⟩, hX6, hV6⟩; have HM1 := Lib.hid hm1; have HM2 := Lib.hid hm2; clear hm1 hm2; (try have HZ := Lib.hid (HZ.out.o hV6)))
    refine hK.out _ _ (⟨hHeld.1.o hV6, hHeld.2.1.o hV6, hX6⟩) (fun hHeld => ?_)
    clear hK K
    try simp only [Act.put, List.setIfInBounds_toArray, List.set_cons_zero, List.set_cons_succ]
    refine pure_ (i := 10) (N := some 34) (v := ?_) (a' := ?_) #[true, true, true, true, true, true, true, true, true, true, true, false, false, false, true, false, false, false] rfl rfl (by kernel_rfl) (fun _ _ _ h => h) (Or.inl ⟨by rfl, ?_⟩) ?_ ?_
    rotate_left
    · intro w'
      go_simp
      (try with_reducible rfl)
    rotate_left
    · simp only [Act.put, List.setIfInBounds_toArray, List.set_cons_zero, List.set_cons_succ]
      rfl
    refine pure_ (i := 11) (N := some 45) (v := ?_) (a' := ?_) #[true, true, true, true, true, true, true, true, true, true, true, true, false, false, true, false, false, false] rfl rfl (by kernel_rfl) (fun _ _ _ h => h) (Or.inl ⟨by rfl, ?_⟩) ?_ ?_
    rotate_left
    · intro w'
      go_simp
      (try with_reducible rfl)
    rotate_left
    · simp only [Act.put, List.setIfInBounds_toArray, List.set_cons_zero, List.set_cons_succ]
      rfl
    refine pure_ (i := 12) (N := some 46) (v := ?_) (a' := ?_) #[true, true, true, true, true, true, true, true, true, true, true, true, true, false, true, false, false, false] rfl rfl (by kernel_rfl) (fun _ _ _ h => h) (Or.inl ⟨by rfl, ?_⟩) ?_ ?_
    rotate_left
    · intro w'
      go_simp
      (try with_reducible rfl)
    rotate_left
    · simp only [Act.put, List.setIfInBounds_toArray, List.set_cons_zero, List.set_cons_succ]
      rfl
    refine pure_ (i := 13) (N := some 47) (v := ?_) (a' := ?_) #[true, true, true, true, true, true, true, true, true, true, true, true, true, true, true, false, false, false] rfl rfl (by kernel_rfl) (fun _ _ _ h => h) (Or.inl ⟨by rfl, ?_⟩) ?_ ?_
    rotate_left
    · intro w'
      go_simp
      (try with_reducible rfl)
    rotate_left
    · simp only [Act.put, List.setIfInBounds_toArray, List.set_cons_zero, List.set_cons_succ]
      rfl
    refine last_ (i := 15) (N := none) (oi := ⟨none, Go.Op.store 41 (Go.Operand.tmp 7) (Go.Operand.tmp 45), 0, "outright.go:78", #[⟨14, Go.Ground.data⟩, ⟨11, Go.Ground.data⟩, ⟨9, Go.Ground.chain⟩, ⟨0, Go.Ground.phase⟩, ⟨1, Go.Ground.phase⟩, ⟨2, Go.Ground.phase⟩, ⟨3, Go.Ground.phase⟩, ⟨4, Go.Ground.phase⟩, ⟨5, Go.Ground.phase⟩, ⟨6, Go.Ground.phase⟩, ⟨7, Go.Ground.phase⟩, ⟨8, Go.Ground.phase⟩, ⟨9, Go.Ground.phase⟩, ⟨10, Go.Ground.phase⟩, ⟨11, Go.Ground.phase⟩, { on := 12, ground := Go.Ground.textOnly Go.Departure.lateStores }, { on := 13, ground := Go.Ground.textOnly Go.Departure.lateStores }, ⟨14, Go.Ground.phase⟩], none⟩) #[true, true, true, true, true, true, true, true, true, true, true, true, true, true, true, true, false, false] rfl rfl (by kernel_rfl) (by decide) (fun K hK => ?_)
    refine step_store_part _ (by rfl) rfl (.tmp 7) (.tmp 45) 41 rfl h 0 ((hC (askH (x.hs j) (x.c.N j) pl).1 n1 n2)) rfl rfl size41 rfl 41 _ HZ.out (Nat.le_refl _) ((hC (askH (x.hs j) (x.c.N j) pl).1 n1 n2)) rfl ?_
    intro w7 hb7 hfr
    have HY7 := Lib.hid hb7
    have HE7 := Lib.hid ((HE.out.o hHeld.2.2).away HZ.out (by decide) (Nat.le_trans HS3.out hge) hne hfr)
    have HR7 := Lib.hid ((HR.out.o hHeld.2.2).away hfr (Nat.ne_of_lt (Nat.lt_of_lt_of_le HR.out.lt hge)))
    have HM1 := Lib.hid (mapIs_far HM1.out HZ.out hfr)
    have HM2 := Lib.hid (mapIs_far HM2.out HZ.out hfr)
    clear hb7 hfr hHeld
    refine hK.out _ _ ?_
    clear hK K
    try simp only [Act.put, List.setIfInBounds_toArray, List.set_cons_zero, List.set_cons_succ]
    refine pure_ (i := 16) (N := some 8) (v := ?_) (a' := ?_) #[true, true, true, true, true, true, true, true, true, true, true, true, true, true, true, true, true, false] rfl rfl (by kernel_rfl) (fun _ _ _ h => h) (Or.inl ⟨by rfl, ?_⟩) ?_ ?_
    rotate_left
    · intro w'
      go_simp
      (try with_reducible rfl)
    rotate_left
    · simp only [Act.put, List.setIfInBounds_toArray, List.set_cons_zero, List.set_cons_succ]
      rfl
    refine pure_ (i := 17) (N := some 9) (v := ?_) (a' := ?_) #[true, true, true, true, true, true, true, true, true, true, true, true, true, true, true, true, true, true] rfl rfl (by kernel_rfl) (fun _ _ _ h => h) (Or.inl ⟨by rfl, ?_⟩) ?_ ?_
    rotate_left
    · intro w'
      go_simp
      (try with_reducible rfl)
    rotate_left
    · simp only [Act.put, List.setIfInBounds_toArray, List.set_cons_zero, List.set_cons_succ]
      rfl
    refine done_ (by kernel_rfl) ?_
  rotate_left 1
  exact AllReadyL.nil
  all_goals
    go_wp2_with (first
      | ((with_reducible refine gate_dst (N := 49) rfl ?_); refine wpList_load_part _ rfl (.tmp 7) 41 rfl h 0 (hC (askH (x.hs j) (x.c.N j) pl).1 n1 n2) rfl agg41 size41 41 _ HY7.out (fun k u hu => (by rw [Nat.zero_add]; simpa using hu)) ?_)
      | (refine wpList_store_part _ rfl (.tmp 51) (.tmp 49) 41 rfl g (4 + j * 4) (hC (askH (x.hs j) (x.c.N j) pl).1 n1 n2) (by simp [Act.eval]) rfl size41 rfl 109 _ HE7.out.blk hfit (WC { x with hs := setH x.hs j (askH (x.hs j) (x.c.N j) pl).1 } p m (updN a j n1) (updN b j n2) (.slice Aw x.way.length cw) term margin) (WC_setH j hj4 (askH (x.hs j) (x.c.N j) pl).1 n1 n2) ?_; intro w8 hbz hfz; have HR8 := Lib.hid (HR7.out.away hfz hgr.symm); have HE8 := Lib.hid (HE7.out.withH j HM1.out HM2.out hbz hfz); have g20b : w8.cell? ⟨g, 20, none⟩ = some (.slice Aw x.way.length cw) := HE8.out.blk.cell 20; clear hbz hfz)
      | ((with_reducible refine gate_dst (N := 60) rfl ?_); refine list_lit0 rfl rfl ?_; intro g0 hg0 W12 hR0 hO; have H0 := Lib.hid hR0; have hO12 := Lib.hid hO; have g20a : W12.cell? ⟨g, 20, none⟩ = some (.slice Aw x.way.length cw) := (HE8.out.o hO).blk.cell 20; clear hR0 hO hg0)
      | (at_builtin; refine list_app (V0 := w8) rfl (.tmp 60) (.tmp 62) rfl _ [] x.way x.way rfl Aw x.way.length cw rfl rfl H0.out (KW_C (KW_below HE8.out.wd.way hO12.out)).2.2 hO12.out (by have := HWl.out; simp; omega) ?_; intro A1 c1 w13 hR1 hO1 hg1; have H3 := Lib.hid hR1; have hO13 := Lib.hid hO1; clear hR1 hO1 hg1 g20a)
      | ((with_reducible refine gate_dst (N := 68) rfl ?_); refine list_lit1 rfl (.tmp 67) wd rfl (by rw [HWd.out]; rfl) ?_; intro g5 hg5 W14 hR5 hO5; have H5 := Lib.hid (Kd.R_lower hR5 hO13.out.size); have H3 := Lib.hid (KW_below H3.out hO5); have hO14 := Lib.hid (Out.thens hO13.out hO5); clear hR5 hO5 hg5)
      | (at_builtin; refine list_app (V0 := w8) rfl (.tmp 63) (.tmp 68) rfl _ x.way [wd] l3 HL3.out (some ⟨g5, 0, none⟩) 1 1 rfl rfl H3.out (KW_C H5.out).2.2 hO14.out (by have := HWl.out; omega) ?_; intro A2 c2 w15 hR2 hO2 hg2; have H6 := Lib.hid hR2; have HE15 := Lib.hid (HE8.out.o hO2); have HR15 := Lib.hid (HR8.out.o hO2); clear hR2 hO2 hg2)
      | (refine list_store_one _ rfl (.tmp 70) (.tmp 69) 107 rfl g 20 (.slice A2 l3.length c2) rfl rfl size107 rfl rfl 109 _ HE15.out.blk (by show 21 ≤ 24; omega) (WC { x with hs := setH x.hs j (askH (x.hs j) (x.c.N j) pl).1, way := l3 } p m (updN a j n1) (updN b j n2) (.slice A2 l3.length c2) term margin) rfl ?_; intro w16 hb16 hf16; have HE16 := Lib.hid (HE15.out.way2 (Kd.R_lower H6.out (Nat.le_trans HLow.out HE8.out.out.size)) hb16 hf16); have HR16 := Lib.hid (HR15.out.away hf16 hgr.symm); clear hb16 hf16)
      | ((with_reducible refine gate_dst (N := 177) rfl ?_); refine wpList_load_part _ rfl (.tmp 2) 109 rfl g 0 (WC { x with hs := setH x.hs j (askH (x.hs j) (x.c.N j) pl).1, way := l3 } p m (updN a j n1) (updN b j n2) (.slice A2 l3.length c2) term margin) rfl agg109 size109 109 _ HE16.out.blk (fun k u hu => (by rw [Nat.zero_add]; simpa using hu)) ?_)
      | (refine wpList_store_part _ rfl (.tmp 4) (.tmp 177) 109 rfl r 0 (WC { x with hs := setH x.hs j (askH (x.hs j) (x.c.N j) pl).1, way := l3 } p m (updN a j n1) (updN b j n2) (.slice A2 l3.length c2) term margin) rfl rfl size109 HE16.out.wd.one 109 _ HR16.out (Nat.le_refl _) (WC { x with hs := setH x.hs j (askH (x.hs j) (x.c.N j) pl).1, way := l3 } p m (updN a j n1) (updN b j n2) (.slice A2 l3.length c2) term margin) rfl ?_; intro w9 hbz hfz; have HR9 := Lib.hid hbz; have HE9 := Lib.hid (HE16.out.away HR16.out (by decide) hrw hgr hfz); clear hbz hfz)
      | fail)
    exact bodyPost_ret (results_blk1 Try.results51 _ _ r (WC { x with hs := setH x.hs j (askH (x.hs j) (x.c.N j) pl).1, way := l3 } p m (updN a j n1) (updN b j n2) (.slice A2 l3.length c2) term margin) rfl agg109 size109 HR9.out) rfl ⟨_, _, _, _, rfl, HE9.out.wd, Out.wide HE9.out.out⟩
set_option maxRecDepth 100000 in
set_option maxHeartbeats 16000000 in
theorem next1B (w : World) (lo p : Nat) (x : MW) (kind i place : Int) (j : Nat) (pl : Int) (m : Option Nat) (a b : Nat → Option Nat) (v : Value) (term margin : Int) (hk : Wd2 w lo p x m a b v) (hj : 1 ≤ j ∧ j ≤ 3 ∧ i % 3 = (j : Int) - 1) (hpl : place % 2 = pl) (hp : (Lit.int .i64 pl).wf = true) (hwl : x.way.length ≤ 300) (hkd : kind = 1) (hsz : (x.hs j).wants.length < 1000000) (hok : (askH (x.hs j) (x.c.N j) pl).2.2 = 0) (hc : ¬ x.way.length < 200) :
    Calls Try.prog 51 #[.agg (WC x p m a b v term margin), .agg (mC kind i place)] w (HandsT w lo p { x with hs := setH x.hs j (askH (x.hs j) (x.c.N j) pl).1 } term margin) := by
  obtain ⟨Aw, cw, rfl⟩ := Kd.R_slice hk.way
  obtain ⟨hj1, hj3, hj0⟩ := hj
  have HKW := Lib.hid hk
  have HKP := Lib.hid hp
  have HWl := Lib.hid hwl
  have HLow := Lib.hid hk.full
  have hj4 : j < 4 := by omega
  have hjI : (j : Int) < 4 := by omega
  have hjn : ¬ (j : Int) < 0 := by omega
  obtain ⟨j0, hj00⟩ : ∃ j0 : Nat, j = j0 + 1 := ⟨j - 1, by omega⟩
  have HA3 : Hid (∀ V, Calls Try.prog 64 #[.int .i64 i, .int .i64 3] V fun e w' => e = .returned (.int .i64 (j0 : Int)) ∧ V = w') := Lib.hid (fun V => by
    have h := at_any V i 3 (by omega) (by omega)
    rw [hj0, show (j : Int) - 1 = (j0 : Int) by omega] at h
    exact h)
  have HA2 : Hid (∀ V, Calls Try.prog 64 #[.int .i64 place, .int .i64 2] V fun e w' => e = .returned (.int .i64 pl) ∧ V = w') := Lib.hid (fun V => by
    have h := at_any V place 2 (by omega) (by omega)
    rw [hpl] at h
    exact h)
  have hjj : (1 : Int) + (j0 : Int) = (j : Int) := by omega
  have hu41 := Try.underlying41
  have hu57 := Try.underlying57
  have hu106 := Try.underlying106
  have hu107 := Try.underlying107
  have hu141 := Try.underlying141
  obtain ⟨ne, hne⟩ : ∃ ne, ne = (askH (x.hs j) (x.c.N j) pl).2.1 := ⟨_, rfl⟩
  have HG : Hid ((askH (x.hs j) (x.c.N j) pl) = ((askH (x.hs j) (x.c.N j) pl).1, ne, 0)) := Lib.hid (by rw [hne, ← hok])
  clear hok hne
  have hlen : ¬ (x.way.length : Int) < 200 := by omega
  clear hc
  have hfit : 4 + j * 4 + (hC (x.hs j) (a j) (b j)).size ≤ (WC x p m a b (.slice Aw x.way.length cw) term margin).size := (by show 4 + j * 4 + 4 ≤ 24; omega)
  have HSz := Lib.hid hsz
  clear hsz
  clear hk hp hj0 hj00 hpl hwl
  go_enter Try.func51, Try.ntmps51
  go_wp2_with (first
  | ((with_reducible refine gate_dst (N := 2) rfl ?_); refine box_event rfl (N := 2) rfl (cs := (WC x p m a b (.slice Aw x.way.length cw) term margin)) (t := 109) ?hr ?_; (case hr => first | (go_simp; done) | (go_simp; rfl)); intro g hg W1 hbox hb; have HE1 : Hid (Ed w W1 g lo p x m a b (.slice Aw x.way.length cw) term margin) := Lib.hid ⟨hbox, HKW.out.kept (Out.of hb), Out.of hb, (by rw [hg]; exact Nat.le_refl _), HLow.out⟩; clear hg hbox hb)
  | ((with_reducible refine gate_dst (N := 3) rfl ?_); refine box_event rfl (N := 3) rfl (cs := mC kind i place) (t := 114) ?hr ?_; (case hr => first | (go_simp; done) | (go_simp; rfl)); intro q hq W2 hbox hb; have HQ2 := Lib.hid (show Blk W2 q 114 (mC kind i place) from hbox); have HE2 := Lib.hid (HE1.out.o (Out.of hb)); have hgq : g ≠ q := (by rw [hq]; exact Nat.ne_of_lt HE1.out.blk.lt); clear hq hbox hb)
  | ((with_reducible refine gate_dst (N := 4) rfl ?_); refine box_event rfl (N := 4) rfl (cs := Z24) (t := 109) ?hr ?_; (case hr => first | (go_simp; done) | (go_simp; rfl)); intro r hr W3 hbox hb; have HR := Lib.hid (show Blk W3 r 109 Z24 from hbox); have HE := Lib.hid (HE2.out.o (Out.of hb)); have HQ := Lib.hid (HQ2.out.o (Out.of hb)); have hgr : g ≠ r := (by rw [hr]; exact Nat.ne_of_lt HE2.out.blk.lt); have hrw : w.heap.size ≤ r := (by rw [hr]; exact HE2.out.out.size); have HNow : Hid (∀ V, Out W3 V → Calls Try.prog 21 #[.pointer (some ⟨p, 0, none⟩), .int .i64 (j : Int)] V fun e w' => e = .returned (.int .i64 (x.c.N j)) ∧ V = w') := Lib.hid (fun V hX => now_some V lo (lo + 4) p 4 x.c (HE.out.wd.kept hX).clk j (by decide) hj4); have q0 : W3.cell? ⟨q, 0, none⟩ = some (.int .i64 kind) := HQ.out.cell 0; have q1 : W3.cell? ⟨q, 1, none⟩ = some (.int .i64 i) := HQ.out.cell 1; have q2 : W3.cell? ⟨q, 2, none⟩ = some (.int .i64 place) := HQ.out.cell 2; (try rw [hkd] at q0); have g20 : W3.cell? ⟨g, 20, none⟩ = some (.slice Aw x.way.length cw) := HE.out.blk.cell 20; clear hr hbox hb HE1 HE2 HQ2)
  | (go_at_call 64; (with_reducible refine (HA3.out _).mono ?_); rintro e5 W5 ⟨rfl, rfl⟩)
  | (go_at_call 64; (with_reducible refine (HA2.out _).mono ?_); rintro e5 W5 ⟨rfl, rfl⟩)
  | fail)
  have HAsk : Hid (∀ V, Out W3 V → Calls Try.prog 26 #[.agg (hC (x.hs j) (a j) (b j)), .int .i64 (x.c.N j), .int .i64 pl] V fun e w' => ∃ n1 n2, e = .returned (.tuple #[.agg (hC (askH (x.hs j) (x.c.N j) pl).1 n1 n2), .int .i64 ne, .int .i64 0]) ∧ (MapIs pairE w' n1 (askH (x.hs j) (x.c.N j) pl).1.wants ∧ MapIs pairE w' n2 (askH (x.hs j) (x.c.N j) pl).1.has) ∧ Out W3 w' ∧ Out V w') := Lib.hid (fun V hX => ask_from hX (HE.out.wd.hw j) (HE.out.wd.hh j) rfl rfl rfl rfl HKP.out HSz.out HG.out)
  have HS3 := Lib.hid HE.out.out.size
  refine start_ (n := 18) (S := fun W' => Blk W' g 109 (WC x p m a b (.slice Aw x.way.length cw) term margin) ∧ Blk W' q 114 (mC kind i place) ∧ Out W3 W') (ds := [15]) #[false, false, false, false, false, false, false, false, false, false, false, false, false, false, false, false, false, false] (by kernel_rfl) rfl rfl (⟨HE.out.blk.drew, HQ.out.drew, (Only.refl _ _ _).drew⟩) (fun hHeld => ?_)
  refine pure_ (i := 0) (N := some 35) (v := ?_) (a' := ?_) #[true, false, false, false, false, false, false, false, false, false, false, false, false, false, false, false, false, false] rfl rfl (by kernel_rfl) (fun _ _ _ h => h) (Or.inl ⟨by rfl, ?_⟩) ?_ ?_
  rotate_left
  · intro w'
    go_simp
    (try with_reducible rfl)
  rotate_left
  · simp only [Act.put, List.setIfInBounds_toArray, List.set_cons_zero, List.set_cons_succ]
    rfl
  refine pure_ (i := 1) (N := some 36) (v := ?_) (a' := ?_) #[true, true, false, false, false, false, false, false, false, false, false, false, false, false, false, false, false, false] rfl rfl (by kernel_rfl) (fun _ _ _ h => h) (Or.inl ⟨by rfl, ?_⟩) ?_ ?_
  rotate_left
  · intro w'
    go_simp
    (try with_reducible rfl)
  rotate_left
  · simp only [Act.put, List.setIfInBounds_toArray, List.set_cons_zero, List.set_cons_succ]
    rfl
  refine pure_ (i := 2) (N := some 37) (v := ?_) (a' := ?_) #[true, true, true, false, false, false, false, false, false, false, false, false, false, false, false, false, false, false] rfl rfl (by kernel_rfl) (fun _ _ _ h => h) (Or.inl ⟨by rfl, ?_⟩) ?_ ?_
  rotate_left
  · intro w'
    go_simp
    (try with_reducible rfl)
  rotate_left
  · simp only [Act.put, List.setIfInBounds_toArray, List.set_cons_zero, List.set_cons_succ]
    rfl
  refine pure_ (i := 4) (N := some 39) (v := ?_) (a' := ?_) #[true, true, true, false, true, false, false, false, false, false, false, false, false, false, false, false, false, false] rfl rfl (by kernel_rfl) (fun _ _ _ h => h) (Or.inl ⟨by rfl, ?_⟩) ?_ ?_
  rotate_left
  · intro w'
    go_simp
    (try with_reducible rfl)
  rotate_left
  · simp only [Act.put, List.setIfInBounds_toArray, List.set_cons_zero, List.set_cons_succ]
    rfl
  refine pure_ (i := 6) (N := some 41) (v := ?_) (a' := ?_) #[true, true, true, false, true, false, true, false, false, false, false, false, false, false, false, false, false, false] rfl rfl (by kernel_rfl) (fun _ _ _ h => h) (Or.inl ⟨by rfl, ?_⟩) ?_ ?_
  rotate_left
  · intro w'
    go_simp
    (try with_reducible rfl)
  rotate_left
  · simp only [Act.put, List.setIfInBounds_toArray, List.set_cons_zero, List.set_cons_succ]
    rfl
  refine pure_ (i := 8) (N := some 43) (v := ?_) (a' := ?_) #[true, true, true, false, true, false, true, false, true, false, false, false, false, false, false, false, false, false] rfl rfl (by kernel_rfl) (fun _ _ _ h => h) (Or.inl ⟨by rfl, ?_⟩) ?_ ?_
  rotate_left
  · intro w'
    go_simp
    (try with_reducible rfl)
  rotate_left
  · simp only [Act.put, List.setIfInBounds_toArray, List.set_cons_zero, List.set_cons_succ]
    rfl
  refine take_ (i := 3) (N := some 38) (v := ?_) (a' := ?_) #[true, true, true, true, true, false, true, false, true, false, false, false, false, false, false, false, false, false] rfl rfl (by kernel_rfl) (fun _ _ _ h => h) (Or.inl ⟨by rfl, ?_⟩) hHeld ?_ ?_
  rotate_left
  · intro w' s0
    obtain ⟨t1, t2, t3⟩ := s0
    refine exec_load_part _ (.tmp 37) 41 ?_ g (4 + j * 4) (hC (x.hs j) (a j) (b j)) ?_ agg41 size41 109 _ t1 ?_
    · rfl
    · (first | rfl | (simp [Act.eval]))
    · exact WC_h j hj4
  rotate_left
  · simp only [Act.put, List.setIfInBounds_toArray, List.set_cons_zero, List.set_cons_succ]
    rfl
  refine take_ (i := 5) (N := some 40) (v := ?_) (a' := ?_) #[true, true, true, true, true, true, true, false, true, false, false, false, false, false, false, false, false, false] rfl rfl (by kernel_rfl) (fun _ _ _ h => h) (Or.inl ⟨by rfl, ?_⟩) hHeld ?_ ?_
  rotate_left
  · intro w' s0
    obtain ⟨t1, t2, t3⟩ := s0
    have c0 : w'.cell? ⟨g, 0, none⟩ = some (.pointer (some ⟨p, 0, none⟩)) := t1.cell 0
    go_simp
    (try with_reducible rfl)
  rotate_left
  · simp only [Act.put, List.setIfInBounds_toArray, List.set_cons_zero, List.set_cons_succ]
    rfl
  refine wpAnyLast_ready (rs := [7, 14]) (by kernel_rfl) (by simp) ?_
  refine AllReadyL.cons (o := ⟨some 42, Go.Op.call ⟨Go.Callee.value (Go.Operand.func 21), #[Go.Operand.tmp 40, Go.Operand.tmp 41], #[24, 3]⟩, 3, "outright.go:78", #[⟨5, Go.Ground.data⟩, ⟨6, Go.Ground.data⟩], none⟩) rfl (by decide) (fun K hK => ?_) ?_
  focus
    rw [if_pos (by rfl)]
    go_simp
    (go_at_call 21; (with_reducible refine (HNow.out _ hHeld.2.2).mono ?_); rintro e5 W5 ⟨rfl, rfl⟩)
    refine hK.out _ _ (hHeld) (fun hHeld => ?_)
    clear hK K
    try simp only [Act.put, List.setIfInBounds_toArray, List.set_cons_zero, List.set_cons_succ]
    refine wpAnyLast_ready (rs := [9, 14]) (by kernel_rfl) (by simp) ?_
    refine AllReadyL.cons (o := ⟨some 44, Go.Op.call ⟨Go.Callee.value (Go.Operand.func 26), #[Go.Operand.tmp 38, Go.Operand.tmp 42, Go.Operand.tmp 43], #[41, 3, 3]⟩, 42, "outright.go:78", #[⟨3, Go.Ground.data⟩, ⟨7, Go.Ground.data⟩, ⟨8, Go.Ground.data⟩, ⟨7, Go.Ground.chain⟩], none⟩) rfl (by decide) (fun K hK => ?_) ?_
    focus
      rw [if_pos (by rfl)]
      go_simp
      (go_at_call 26; (with_reducible refine (HAsk.out _ hHeld.2.2).mono ?_); rintro e6 W9 ⟨n1, n2, rfl, ⟨hm1, hm2⟩, hX6, hV6⟩; have HM1 := Lib.hid hm1; have HM2 := Lib.hid hm2; clear hm1 hm2; (try have HZ := Lib.hid (HZ.out.o hV6)))
      refine hK.out _ _ (⟨hHeld.1.o hV6, hHeld.2.1.o hV6, hX6⟩) (fun hHeld => ?_)
      clear hK K
      try simp only [Act.put, List.setIfInBounds_toArray, List.set_cons_zero, List.set_cons_succ]
      refine pure_ (i := 10) (N := some 34) (v := ?_) (a' := ?_) #[true, true, true, true, true, true, true, true, true, true, true, false, false, false, false, false, false, false] rfl rfl (by kernel_rfl) (fun _ _ _ h => h) (Or.inl ⟨by rfl, ?_⟩) ?_ ?_
      rotate_left
      · intro w'
        go_simp
        (try with_reducible rfl)
      rotate_left
      · simp only [Act.put, List.setIfInBounds_toArray, List.set_cons_zero, List.set_cons_succ]
        rfl
      refine pure_ (i := 11) (N := some 45) (v := ?_) (a' := ?_) #[true, true, true, true, true, true, true, true, true, true, true, true, false, false, false, false, false, false] rfl rfl (by kernel_rfl) (fun _ _ _ h => h) (Or.inl ⟨by rfl, ?_⟩) ?_ ?_
      rotate_left
      · intro w'
        go_simp
        (try with_reducible rfl)
      rotate_left
      · simp only [Act.put, List.setIfInBounds_toArray, List.set_cons_zero, List.set_cons_succ]
        rfl
      refine pure_ (i := 12) (N := some 46) (v := ?_) (a' := ?_) #[true, true, true, true, true, true, true, true, true, true, true, true, true, false, false, false, false, false] rfl rfl (by kernel_rfl) (fun _ _ _ h => h) (Or.inl ⟨by rfl, ?_⟩) ?_ ?_
      rotate_left
      · intro w'
        go_simp
        (try with_reducible rfl)
      rotate_left
      · simp only [Act.put, List.setIfInBounds_toArray, List.set_cons_zero, List.set_cons_succ]
        rfl
      refine pure_ (i := 13) (N := some 47) (v := ?_) (a' := ?_) #[true, true, true, true, true, true, true, true, true, true, true, true, true, true, false, false, false, false] rfl rfl (by kernel_rfl) (fun _ _ _ h => h) (Or.inl ⟨by rfl, ?_⟩) ?_ ?_
      rotate_left
      · intro w'
        go_simp
        (try with_reducible rfl)
      rotate_left
      · simp only [Act.put, List.setIfInBounds_toArray, List.set_cons_zero, List.set_cons_succ]
        rfl
      refine one_ (i := 14) (N := some 7) (oi := ⟨some 7, Go.Op.alloc 41, 0, "outright.go:78", #[], none⟩) #[true, true, true, true, true, true, true, true, true, true, true, true, true, true, true, false, false, false] rfl rfl (by kernel_rfl) (by decide) (fun K hK => ?_)
      refine step_alloc (by rfl) rfl (cs := #[.int .i64 0, .int .i64 0, .map none, .map none]) (t := 41) ?hr ?_
      (case hr => first | (go_simp; done) | (go_simp; rfl))
      intro h hh W7 hbox hO
      have HZ := Lib.hid hbox
      have hne : g ≠ h := (by rw [hh]; exact Nat.ne_of_lt hHeld.1.lt)
      have hge : W3.heap.size ≤ h := (by rw [hh]; exact hHeld.2.2.size)
      (try have HM1 := Lib.hid (mapIs_out HM1.out hO)); (try have HM2 := Lib.hid (mapIs_out HM2.out hO))
      clear hh hbox
      refine hK.out _ _ (⟨hHeld.1.o hO, hHeld.2.1.o hO, hHeld.2.2.thens hO⟩) (fun hHeld => ?_)
      clear hK K
      try simp only [Act.put, List.setIfInBounds_toArray, List.set_cons_zero, List.set_cons_succ]
      refine last_ (i := 15) (N := none) (oi := ⟨none, Go.Op.store 41 (Go.Operand.tmp 7) (Go.Operand.tmp 45), 0, "outright.go:78", #[⟨14, Go.Ground.data⟩, ⟨11, Go.Ground.data⟩, ⟨9, Go.Ground.chain⟩, ⟨0, Go.Ground.phase⟩, ⟨1, Go.Ground.phase⟩, ⟨2, Go.Ground.phase⟩, ⟨3, Go.Ground.phase⟩, ⟨4, Go.Ground.phase⟩, ⟨5, Go.Ground.phase⟩, ⟨6, Go.Ground.phase⟩, ⟨7, Go.Ground.phase⟩, ⟨8, Go.Ground.phase⟩, ⟨9, Go.Ground.phase⟩, ⟨10, Go.Ground.phase⟩, ⟨11, Go.Ground.phase⟩, { on := 12, ground := Go.Ground.textOnly Go.Departure.lateStores }, { on := 13, ground := Go.Ground.textOnly Go.Departure.lateStores }, ⟨14, Go.Ground.phase⟩], none⟩) #[true, true, true, true, true, true, true, true, true, true, true, true, true, true, true, true, false, false] rfl rfl (by kernel_rfl) (by decide) (fun K hK => ?_)
      refine step_store_part _ (by rfl) rfl (.tmp 7) (.tmp 45) 41 rfl h 0 ((hC (askH (x.hs j) (x.c.N j) pl).1 n1 n2)) rfl rfl size41 rfl 41 _ HZ.out (Nat.le_refl _) ((hC (askH (x.hs j) (x.c.N j) pl).1 n1 n2)) rfl ?_
      intro w7 hb7 hfr
      have HY7 := Lib.hid hb7
      have HE7 := Lib.hid ((HE.out.o hHeld.2.2).away HZ.out (by decide) (Nat.le_trans HS3.out hge) hne hfr)
      have HR7 := Lib.hid ((HR.out.o hHeld.2.2).away hfr (Nat.ne_of_lt (Nat.lt_of_lt_of_le HR.out.lt hge)))
      have HM1 := Lib.hid (mapIs_far HM1.out HZ.out hfr)
      have HM2 := Lib.hid (mapIs_far HM2.out HZ.out hfr)
      clear hb7 hfr hHeld
      refine hK.out _ _ ?_
      clear hK K
      try simp only [Act.put, List.setIfInBounds_toArray, List.set_cons_zero, List.set_cons_succ]
      refine pure_ (i := 16) (N := some 8) (v := ?_) (a' := ?_) #[true, true, true, true, true, true, true, true, true, true, true, true, true, true, true, true, true, false] rfl rfl (by kernel_rfl) (fun _ _ _ h => h) (Or.inl ⟨by rfl, ?_⟩) ?_ ?_
      rotate_left
      · intro w'
        go_simp
        (try with_reducible rfl)
      rotate_left
      · simp only [Act.put, List.setIfInBounds_toArray, List.set_cons_zero, List.set_cons_succ]
        rfl
      refine pure_ (i := 17) (N := some 9) (v := ?_) (a' := ?_) #[true, true, true, true, true, true, true, true, true, true, true, true, true, true, true, true, true, true] rfl rfl (by kernel_rfl) (fun _ _ _ h => h) (Or.inl ⟨by rfl, ?_⟩) ?_ ?_
      rotate_left
      · intro w'
        go_simp
        (try with_reducible rfl)
      rotate_left
      · simp only [Act.put, List.setIfInBounds_toArray, List.set_cons_zero, List.set_cons_succ]
        rfl
      refine done_ (by kernel_rfl) ?_
    rotate_left 1
    refine AllReadyL.cons (o := ⟨some 7, Go.Op.alloc 41, 0, "outright.go:78", #[], none⟩) rfl (by decide) (fun K hK => ?_) ?_
    focus
      refine step_alloc (by rfl) rfl (cs := #[.int .i64 0, .int .i64 0, .map none, .map none]) (t := 41) ?hr ?_
      (case hr => first | (go_simp; done) | (go_simp; rfl))
      intro h hh W7 hbox hO
      have HZ := Lib.hid hbox
      have hne : g ≠ h := (by rw [hh]; exact Nat.ne_of_lt hHeld.1.lt)
      have hge : W3.heap.size ≤ h := (by rw [hh]; exact hHeld.2.2.size)
      (try have HM1 := Lib.hid (mapIs_out HM1.out hO)); (try have HM2 := Lib.hid (mapIs_out HM2.out hO))
      clear hh hbox
      refine hK.out _ _ (⟨hHeld.1.o hO, hHeld.2.1.o hO, hHeld.2.2.thens hO⟩) (fun hHeld => ?_)
      clear hK K
      try simp only [Act.put, List.setIfInBounds_toArray, List.set_cons_zero, List.set_cons_succ]
      refine one_ (i := 9) (N := some 44) (oi := ⟨some 44, Go.Op.call ⟨Go.Callee.value (Go.Operand.func 26), #[Go.Operand.tmp 38, Go.Operand.tmp 42, Go.Operand.tmp 43], #[41, 3, 3]⟩, 42, "outright.go:78", #[⟨3, Go.Ground.data⟩, ⟨7, Go.Ground.data⟩, ⟨8, Go.Ground.data⟩, ⟨7, Go.Ground.chain⟩], none⟩) #[true, true, true, true, true, true, true, true, true, true, false, false, false, false, true, false, false, false] rfl rfl (by kernel_rfl) (by decide) (fun K hK => ?_)
      rw [if_pos (by rfl)]
      go_simp
      (go_at_call 26; (with_reducible refine (HAsk.out _ hHeld.2.2).mono ?_); rintro e6 W9 ⟨n1, n2, rfl, ⟨hm1, hm2⟩, hX6, hV6⟩; have HM1 := Lib.hid hm1; have HM2 := Lib.hid hm2; clear hm1 hm2; (try have HZ := Lib.hid (HZ.out.o hV6)))
      refine hK.out _ _ (⟨hHeld.1.o hV6, hHeld.2.1.o hV6, hX6⟩) (fun hHeld => ?_)
      clear hK K
      try simp only [Act.put, List.setIfInBounds_toArray, List.set_cons_zero, List.set_cons_succ]
      refine pure_ (i := 10) (N := some 34) (v := ?_) (a' := ?_) #[true, true, true, true, true, true, true, true, true, true, true, false, false, false, true, false, false, false] rfl rfl (by kernel_rfl) (fun _ _ _ h => h) (Or.inl ⟨by rfl, ?_⟩) ?_ ?_
      rotate_left
      · intro w'
        go_simp
        (try with_reducible rfl)
      rotate_left
      · simp only [Act.put, List.setIfInBounds_toArray, List.set_cons_zero, List.set_cons_succ]
        rfl
      refine pure_ (i := 11) (N := some 45) (v := ?_) (a' := ?_) #[true, true, true, true, true, true, true, true, true, true, true, true, false, false, true, false, false, false] rfl rfl (by kernel_rfl) (fun _ _ _ h => h) (Or.inl ⟨by rfl, ?_⟩) ?_ ?_
      rotate_left
      · intro w'
        go_simp
        (try with_reducible rfl)
      rotate_left
      · simp only [Act.put, List.setIfInBounds_toArray, List.set_cons_zero, List.set_cons_succ]
        rfl
      refine pure_ (i := 12) (N := some 46) (v := ?_) (a' := ?_) #[true, true, true, true, true, true, true, true, true, true, true, true, true, false, true, false, false, false] rfl rfl (by kernel_rfl) (fun _ _ _ h => h) (Or.inl ⟨by rfl, ?_⟩) ?_ ?_
      rotate_left
      · intro w'
        go_simp
        (try with_reducible rfl)
      rotate_left
      · simp only [Act.put, List.setIfInBounds_toArray, List.set_cons_zero, List.set_cons_succ]
        rfl
      refine pure_ (i := 13) (N := some 47) (v := ?_) (a' := ?_) #[true, true, true, true, true, true, true, true, true, true, true, true, true, true, true, false, false, false] rfl rfl (by kernel_rfl) (fun _ _ _ h => h) (Or.inl ⟨by rfl, ?_⟩) ?_ ?_
      rotate_left
      · intro w'
        go_simp
        (try with_reducible rfl)
      rotate_left
      · simp only [Act.put, List.setIfInBounds_toArray, List.set_cons_zero, List.set_cons_succ]
        rfl
      refine last_ (i := 15) (N := none) (oi := ⟨none, Go.Op.store 41 (Go.Operand.tmp 7) (Go.Operand.tmp 45), 0, "outright.go:78", #[⟨14, Go.Ground.data⟩, ⟨11, Go.Ground.data⟩, ⟨9, Go.Ground.chain⟩, ⟨0, Go.Ground.phase⟩, ⟨1, Go.Ground.phase⟩, ⟨2, Go.Ground.phase⟩, ⟨3, Go.Ground.phase⟩, ⟨4, Go.Ground.phase⟩, ⟨5, Go.Ground.phase⟩, ⟨6, Go.Ground.phase⟩, ⟨7, Go.Ground.phase⟩, ⟨8, Go.Ground.phase⟩, ⟨9, Go.Ground.phase⟩, ⟨10, Go.Ground.phase⟩, ⟨11, Go.Ground.phase⟩, { on := 12, ground := Go.Ground.textOnly Go.Departure.lateStores }, { on := 13, ground := Go.Ground.textOnly Go.Departure.lateStores }, ⟨14, Go.Ground.phase⟩], none⟩) #[true, true, true, true, true, true, true, true, true, true, true, true, true, true, true, true, false, false] rfl rfl (by kernel_rfl) (by decide) (fun K hK => ?_)
      refine step_store_part _ (by rfl) rfl (.tmp 7) (.tmp 45) 41 rfl h 0 ((hC (askH (x.hs j) (x.c.N j) pl).1 n1 n2)) rfl rfl size41 rfl 41 _ HZ.out (Nat.le_refl _) ((hC (askH (x.hs j) (x.c.N j) pl).1 n1 n2)) rfl ?_
      intro w7 hb7 hfr
      have HY7 := Lib.hid hb7
      have HE7 := Lib.hid ((HE.out.o hHeld.2.2).away HZ.out (by decide) (Nat.le_trans HS3.out hge) hne hfr)
      have HR7 := Lib.hid ((HR.out.o hHeld.2.2).away hfr (Nat.ne_of_lt (Nat.lt_of_lt_of_le HR.out.lt hge)))
      have HM1 := Lib.hid (mapIs_far HM1.out HZ.out hfr)
      have HM2 := Lib.hid (mapIs_far HM2.out HZ.out hfr)
      clear hb7 hfr hHeld
      refine hK.out _ _ ?_
      clear hK K
      try simp only [Act.put, List.setIfInBounds_toArray, List.set_cons_zero, List.set_cons_succ]
      refine pure_ (i := 16) (N := some 8) (v := ?_) (a' := ?_) #[true, true, true, true, true, true, true, true, true, true, true, true, true, true, true, true, true, false] rfl rfl (by kernel_rfl) (fun _ _ _ h => h) (Or.inl ⟨by rfl, ?_⟩) ?_ ?_
      rotate_left
      · intro w'
        go_simp
        (try with_reducible rfl)
      rotate_left
      · simp only [Act.put, List.setIfInBounds_toArray, List.set_cons_zero, List.set_cons_succ]
        rfl
      refine pure_ (i := 17) (N := some 9) (v := ?_) (a' := ?_) #[true, true, true, true, true, true, true, true, true, true, true, true, true, true, true, true, true, true] rfl rfl (by kernel_rfl) (fun _ _ _ h => h) (Or.inl ⟨by rfl, ?_⟩) ?_ ?_
      rotate_left
      · intro w'
        go_simp
        (try with_reducible rfl)
      rotate_left
      · simp only [Act.put, List.setIfInBounds_toArray, List.set_cons_zero, List.set_cons_succ]
        rfl
      refine done_ (by kernel_rfl) ?_
    rotate_left 1
    exact AllReadyL.nil
  rotate_left 2
  refine AllReadyL.cons (o := ⟨some 7, Go.Op.alloc 41, 0, "outright.go:78", #[], none⟩) rfl (by decide) (fun K hK => ?_) ?_
  focus
    refine step_alloc (by rfl) rfl (cs := #[.int .i64 0, .int .i64 0, .map none, .map none]) (t := 41) ?hr ?_
    (case hr => first | (go_simp; done) | (go_simp; rfl))
    intro h hh W7 hbox hO
    have HZ := Lib.hid hbox
    have hne : g ≠ h := (by rw [hh]; exact Nat.ne_of_lt hHeld.1.lt)
    have hge : W3.heap.size ≤ h := (by rw [hh]; exact hHeld.2.2.size)
    (try have HM1 := Lib.hid (mapIs_out HM1.out hO)); (try have HM2 := Lib.hid (mapIs_out HM2.out hO))
    clear hh hbox
    refine hK.out _ _ (⟨hHeld.1.o hO, hHeld.2.1.o hO, hHeld.2.2.thens hO⟩) (fun hHeld => ?_)
    clear hK K
    try simp only [Act.put, List.setIfInBounds_toArray, List.set_cons_zero, List.set_cons_succ]
    refine one_ (i := 7) (N := some 42) (oi := ⟨some 42, Go.Op.call ⟨Go.Callee.value (Go.Operand.func 21), #[Go.Operand.tmp 40, Go.Operand.tmp 41], #[24, 3]⟩, 3, "outright.go:78", #[⟨5, Go.Ground.data⟩, ⟨6, Go.Ground.data⟩], none⟩) #[true, true, true, true, true, true, true, true, true, false, false, false, false, false, true, false, false, false] rfl rfl (by kernel_rfl) (by decide) (fun K hK => ?_)
    rw [if_pos (by rfl)]
    go_simp
    (go_at_call 21; (with_reducible refine (HNow.out _ hHeld.2.2).mono ?_); rintro e5 W5 ⟨rfl, rfl⟩)
    refine hK.out _ _ (hHeld) (fun hHeld => ?_)
    clear hK K
    try simp only [Act.put, List.setIfInBounds_toArray, List.set_cons_zero, List.set_cons_succ]
    refine one_ (i := 9) (N := some 44) (oi := ⟨some 44, Go.Op.call ⟨Go.Callee.value (Go.Operand.func 26), #[Go.Operand.tmp 38, Go.Operand.tmp 42, Go.Operand.tmp 43], #[41, 3, 3]⟩, 42, "outright.go:78", #[⟨3, Go.Ground.data⟩, ⟨7, Go.Ground.data⟩, ⟨8, Go.Ground.data⟩, ⟨7, Go.Ground.chain⟩], none⟩) #[true, true, true, true, true, true, true, true, true, true, false, false, false, false, true, false, false, false] rfl rfl (by kernel_rfl) (by decide) (fun K hK => ?_)
    rw [if_pos (by rfl)]
    go_simp
    (go_at_call 26; (with_reducible refine (HAsk.out _ hHeld.2.2).mono ?_); rintro e6 W9 ⟨n1, n2, rfl, ⟨hm1, hm2⟩, hX6, hV6⟩; have HM1 := Lib.hid hm1; have HM2 := Lib.hid hm2; clear hm1 hm2; (try have HZ := Lib.hid (HZ.out.o hV6)))
    refine hK.out _ _ (⟨hHeld.1.o hV6, hHeld.2.1.o hV6, hX6⟩) (fun hHeld => ?_)
    clear hK K
    try simp only [Act.put, List.setIfInBounds_toArray, List.set_cons_zero, List.set_cons_succ]
    refine pure_ (i := 10) (N := some 34) (v := ?_) (a' := ?_) #[true, true, true, true, true, true, true, true, true, true, true, false, false, false, true, false, false, false] rfl rfl (by kernel_rfl) (fun _ _ _ h => h) (Or.inl ⟨by rfl, ?_⟩) ?_ ?_
    rotate_left
    · intro w'
      go_simp
      (try with_reducible rfl)
    rotate_left
    · simp only [Act.put, List.setIfInBounds_toArray, List.set_cons_zero, List.set_cons_succ]
      rfl
    refine pure_ (i := 11) (N := some 45) (v := ?_) (a' := ?_) #[true, true, true, true, true, true, true, true, true, true, true, true, false, false, true, false, false, false] rfl rfl (by kernel_rfl) (fun _ _ _ h => h) (Or.inl ⟨by rfl, ?_⟩) ?_ ?_
    rotate_left
    · intro w'
      go_simp
      (try with_reducible rfl)
    rotate_left
    · simp only [Act.put, List.setIfInBounds_toArray, List.set_cons_zero, List.set_cons_succ]
      rfl
    refine pure_ (i := 12) (N := some 46) (v := ?_) (a' := ?_) #[true, true, true, true, true, true, true, true, true, true, true, true, true, false, true, false, false, false] rfl rfl (by kernel_rfl) (fun _ _ _ h => h) (Or.inl ⟨by rfl, ?_⟩) ?_ ?_
    rotate_left
    · intro w'
      go_simp
      (try with_reducible rfl)
    rotate_left
    · simp only [Act.put, List.setIfInBounds_toArray, List.set_cons_zero, List.set_cons_succ]
      rfl
    refine pure_ (i := 13) (N := some 47) (v := ?_) (a' := ?_) #[true, true, true, true, true, true, true, true, true, true, true, true, true, true, true, false, false, false] rfl rfl (by kernel_rfl) (fun _ _ _ h => h) (Or.inl ⟨by rfl, ?_⟩) ?_ ?_
    rotate_left
    · intro w'
      go_simp
      (try with_reducible rfl)
    rotate_left
    · simp only [Act.put, List.setIfInBounds_toArray, List.set_cons_zero, List.set_cons_succ]
      rfl
    refine last_ (i := 15) (N := none) (oi := ⟨none, Go.Op.store 41 (Go.Operand.tmp 7) (Go.Operand.tmp 45), 0, "outright.go:78", #[⟨14, Go.Ground.data⟩, ⟨11, Go.Ground.data⟩, ⟨9, Go.Ground.chain⟩, ⟨0, Go.Ground.phase⟩, ⟨1, Go.Ground.phase⟩, ⟨2, Go.Ground.phase⟩, ⟨3, Go.Ground.phase⟩, ⟨4, Go.Ground.phase⟩, ⟨5, Go.Ground.phase⟩, ⟨6, Go.Ground.phase⟩, ⟨7, Go.Ground.phase⟩, ⟨8, Go.Ground.phase⟩, ⟨9, Go.Ground.phase⟩, ⟨10, Go.Ground.phase⟩, ⟨11, Go.Ground.phase⟩, { on := 12, ground := Go.Ground.textOnly Go.Departure.lateStores }, { on := 13, ground := Go.Ground.textOnly Go.Departure.lateStores }, ⟨14, Go.Ground.phase⟩], none⟩) #[true, true, true, true, true, true, true, true, true, true, true, true, true, true, true, true, false, false] rfl rfl (by kernel_rfl) (by decide) (fun K hK => ?_)
    refine step_store_part _ (by rfl) rfl (.tmp 7) (.tmp 45) 41 rfl h 0 ((hC (askH (x.hs j) (x.c.N j) pl).1 n1 n2)) rfl rfl size41 rfl 41 _ HZ.out (Nat.le_refl _) ((hC (askH (x.hs j) (x.c.N j) pl).1 n1 n2)) rfl ?_
    intro w7 hb7 hfr
    have HY7 := Lib.hid hb7
    have HE7 := Lib.hid ((HE.out.o hHeld.2.2).away HZ.out (by decide) (Nat.le_trans HS3.out hge) hne hfr)
    have HR7 := Lib.hid ((HR.out.o hHeld.2.2).away hfr (Nat.ne_of_lt (Nat.lt_of_lt_of_le HR.out.lt hge)))
    have HM1 := Lib.hid (mapIs_far HM1.out HZ.out hfr)
    have HM2 := Lib.hid (mapIs_far HM2.out HZ.out hfr)
    clear hb7 hfr hHeld
    refine hK.out _ _ ?_
    clear hK K
    try simp only [Act.put, List.setIfInBounds_toArray, List.set_cons_zero, List.set_cons_succ]
    refine pure_ (i := 16) (N := some 8) (v := ?_) (a' := ?_) #[true, true, true, true, true, true, true, true, true, true, true, true, true, true, true, true, true, false] rfl rfl (by kernel_rfl) (fun _ _ _ h => h) (Or.inl ⟨by rfl, ?_⟩) ?_ ?_
    rotate_left
    · intro w'
      go_simp
      (try with_reducible rfl)
    rotate_left
    · simp only [Act.put, List.setIfInBounds_toArray, List.set_cons_zero, List.set_cons_succ]
      rfl
    refine pure_ (i := 17) (N := some 9) (v := ?_) (a' := ?_) #[true, true, true, true, true, true, true, true, true, true, true, true, true, true, true, true, true, true] rfl rfl (by kernel_rfl) (fun _ _ _ h => h) (Or.inl ⟨by rfl, ?_⟩) ?_ ?_
    rotate_left
    · intro w'
      go_simp
      (try with_reducible rfl)
    rotate_left
    · simp only [Act.put, List.setIfInBounds_toArray, List.set_cons_zero, List.set_cons_succ]
      rfl
    refine done_ (by kernel_rfl) ?_
  rotate_left 1
  exact AllReadyL.nil
  all_goals
    go_wp2_with (first
      | ((with_reducible refine gate_dst (N := 49) rfl ?_); refine wpList_load_part _ rfl (.tmp 7) 41 rfl h 0 (hC (askH (x.hs j) (x.c.N j) pl).1 n1 n2) rfl agg41 size41 41 _ HY7.out (fun k u hu => (by rw [Nat.zero_add]; simpa using hu)) ?_)
      | (refine wpList_store_part _ rfl (.tmp 51) (.tmp 49) 41 rfl g (4 + j * 4) (hC (askH (x.hs j) (x.c.N j) pl).1 n1 n2) (by simp [Act.eval]) rfl size41 rfl 109 _ HE7.out.blk hfit (WC { x with hs := setH x.hs j (askH (x.hs j) (x.c.N j) pl).1 } p m (updN a j n1) (updN b j n2) (.slice Aw x.way.length cw) term margin) (WC_setH j hj4 (askH (x.hs j) (x.c.N j) pl).1 n1 n2) ?_; intro w8 hbz hfz; have HR8 := Lib.hid (HR7.out.away hfz hgr.symm); have HE8 := Lib.hid (HE7.out.withH j HM1.out HM2.out hbz hfz); have g20b : w8.cell? ⟨g, 20, none⟩ = some (.slice Aw x.way.length cw) := HE8.out.blk.cell 20; clear hbz hfz)
      | ((with_reducible refine gate_dst (N := 177) rfl ?_); refine wpList_load_part _ rfl (.tmp 2) 109 rfl g 0 (WC { x with hs := setH x.hs j (askH (x.hs j) (x.c.N j) pl).1 } p m (updN a j n1) (updN b j n2) (.slice Aw x.way.length cw) term margin) rfl agg109 size109 109 _ HE8.out.blk (fun k u hu => (by rw [Nat.zero_add]; simpa using hu)) ?_)
      | (refine wpList_store_part _ rfl (.tmp 4) (.tmp 177) 109 rfl r 0 (WC { x with hs := setH x.hs j (askH (x.hs j) (x.c.N j) pl).1 } p m (updN a j n1) (updN b j n2) (.slice Aw x.way.length cw) term margin) rfl rfl size109 HE8.out.wd.one 109 _ HR8.out (Nat.le_refl _) (WC { x with hs := setH x.hs j (askH (x.hs j) (x.c.N j) pl).1 } p m (updN a j n1) (updN b j n2) (.slice Aw x.way.length cw) term margin) rfl ?_; intro w9 hbz hfz; have HR9 := Lib.hid hbz; have HE9 := Lib.hid (HE8.out.away HR8.out (by decide) hrw hgr hfz); clear hbz hfz)
      | fail)
    exact bodyPost_ret (results_blk1 Try.results51 _ _ r (WC { x with hs := setH x.hs j (askH (x.hs j) (x.c.N j) pl).1 } p m (updN a j n1) (updN b j n2) (.slice Aw x.way.length cw) term margin) rfl agg109 size109 HR9.out) rfl ⟨_, _, _, _, rfl, HE9.out.wd, Out.wide HE9.out.out⟩
set_option maxRecDepth 100000 in
set_option maxHeartbeats 16000000 in
theorem next1C (w : World) (lo p : Nat) (x : MW) (kind i place : Int) (j : Nat) (pl : Int) (m : Option Nat) (a b : Nat → Option Nat) (v : Value) (term margin : Int) (hk : Wd2 w lo p x m a b v) (hj : 1 ≤ j ∧ j ≤ 3 ∧ i % 3 = (j : Int) - 1) (hpl : place % 2 = pl) (hp : (Lit.int .i64 pl).wf = true) (hwl : x.way.length ≤ 300) (hkd : kind = 1) (hsz : (x.hs j).wants.length < 1000000) (hok : (askH (x.hs j) (x.c.N j) pl).2.2 ≠ 0) :
    Calls Try.prog 51 #[.agg (WC x p m a b v term margin), .agg (mC kind i place)] w (HandsT w lo p { x with hs := setH x.hs j (askH (x.hs j) (x.c.N j) pl).1 } term margin) := by
  obtain ⟨Aw, cw, rfl⟩ := Kd.R_slice hk.way
  obtain ⟨hj1, hj3, hj0⟩ := hj
  have HKW := Lib.hid hk
  have HKP := Lib.hid hp
  have HWl := Lib.hid hwl
  have HLow := Lib.hid hk.full
  have hj4 : j < 4 := by omega
  have hjI : (j : Int) < 4 := by omega
  have hjn : ¬ (j : Int) < 0 := by omega
  obtain ⟨j0, hj00⟩ : ∃ j0 : Nat, j = j0 + 1 := ⟨j - 1, by omega⟩
  have HA3 : Hid (∀ V, Calls Try.prog 64 #[.int .i64 i, .int .i64 3] V fun e w' => e = .returned (.int .i64 (j0 : Int)) ∧ V = w') := Lib.hid (fun V => by
    have h := at_any V i 3 (by omega) (by omega)
    rw [hj0, show (j : Int) - 1 = (j0 : Int) by omega] at h
    exact h)
  have HA2 : Hid (∀ V, Calls Try.prog 64 #[.int .i64 place, .int .i64 2] V fun e w' => e = .returned (.int .i64 pl) ∧ V = w') := Lib.hid (fun V => by
    have h := at_any V place 2 (by omega) (by omega)
    rw [hpl] at h
    exact h)
  have hjj : (1 : Int) + (j0 : Int) = (j : Int) := by omega
  have hu41 := Try.underlying41
  have hu57 := Try.underlying57
  have hu106 := Try.underlying106
  have hu107 := Try.underlying107
  have hu141 := Try.underlying141
  obtain ⟨ne, hne⟩ : ∃ ne, ne = (askH (x.hs j) (x.c.N j) pl).2.1 := ⟨_, rfl⟩
  obtain ⟨ce, hce⟩ : ∃ ce, (askH (x.hs j) (x.c.N j) pl).2.2 = ce := ⟨_, rfl⟩
  have hce0 : (ce == 0) = false := beq_eq_false_iff_ne.2 (by rw [← hce]; exact hok)
  have HG : Hid ((askH (x.hs j) (x.c.N j) pl) = ((askH (x.hs j) (x.c.N j) pl).1, ne, ce)) := Lib.hid (by rw [hne, ← hce])
  clear hce hok hne
  have hfit : 4 + j * 4 + (hC (x.hs j) (a j) (b j)).size ≤ (WC x p m a b (.slice Aw x.way.length cw) term margin).size := (by show 4 + j * 4 + 4 ≤ 24; omega)
  have HSz := Lib.hid hsz
  clear hsz
  clear hk hp hj0 hj00 hpl hwl
  go_enter Try.func51, Try.ntmps51
  go_wp2_with (first
  | ((with_reducible refine gate_dst (N := 2) rfl ?_); refine box_event rfl (N := 2) rfl (cs := (WC x p m a b (.slice Aw x.way.length cw) term margin)) (t := 109) ?hr ?_; (case hr => first | (go_simp; done) | (go_simp; rfl)); intro g hg W1 hbox hb; have HE1 : Hid (Ed w W1 g lo p x m a b (.slice Aw x.way.length cw) term margin) := Lib.hid ⟨hbox, HKW.out.kept (Out.of hb), Out.of hb, (by rw [hg]; exact Nat.le_refl _), HLow.out⟩; clear hg hbox hb)
  | ((with_reducible refine gate_dst (N := 3) rfl ?_); refine box_event rfl (N := 3) rfl (cs := mC kind i place) (t := 114) ?hr ?_; (case hr => first | (go_simp; done) | (go_simp; rfl)); intro q hq W2 hbox hb; have HQ2 := Lib.hid (show Blk W2 q 114 (mC kind i place) from hbox); have HE2 := Lib.hid (HE1.out.o (Out.of hb)); have hgq : g ≠ q := (by rw [hq]; exact Nat.ne_of_lt HE1.out.blk.lt); clear hq hbox hb)
  | ((with_reducible refine gate_dst (N := 4) rfl ?_); refine box_event rfl (N := 4) rfl (cs := Z24) (t := 109) ?hr ?_; (case hr => first | (go_simp; done) | (go_simp; rfl)); intro r hr W3 hbox hb; have HR := Lib.hid (show Blk W3 r 109 Z24 from hbox); have HE := Lib.hid (HE2.out.o (Out.of hb)); have HQ := Lib.hid (HQ2.out.o (Out.of hb)); have hgr : g ≠ r := (by rw [hr]; exact Nat.ne_of_lt HE2.out.blk.lt); have hrw : w.heap.size ≤ r := (by rw [hr]; exact HE2.out.out.size); have HNow : Hid (∀ V, Out W3 V → Calls Try.prog 21 #[.pointer (some ⟨p, 0, none⟩), .int .i64 (j : Int)] V fun e w' => e = .returned (.int .i64 (x.c.N j)) ∧ V = w') := Lib.hid (fun V hX => now_some V lo (lo + 4) p 4 x.c (HE.out.wd.kept hX).clk j (by decide) hj4); have q0 : W3.cell? ⟨q, 0, none⟩ = some (.int .i64 kind) := HQ.out.cell 0; have q1 : W3.cell? ⟨q, 1, none⟩ = some (.int .i64 i) := HQ.out.cell 1; have q2 : W3.cell? ⟨q, 2, none⟩ = some (.int .i64 place) := HQ.out.cell 2; (try rw [hkd] at q0); have g20 : W3.cell? ⟨g, 20, none⟩ = some (.slice Aw x.way.length cw) := HE.out.blk.cell 20; clear hr hbox hb HE1 HE2 HQ2)
  | (go_at_call 64; (with_reducible refine (HA3.out _).mono ?_); rintro e5 W5 ⟨rfl, rfl⟩)
  | (go_at_call 64; (with_reducible refine (HA2.out _).mono ?_); rintro e5 W5 ⟨rfl, rfl⟩)
  | fail)
  have HAsk : Hid (∀ V, Out W3 V → Calls Try.prog 26 #[.agg (hC (x.hs j) (a j) (b j)), .int .i64 (x.c.N j), .int .i64 pl] V fun e w' => ∃ n1 n2, e = .returned (.tuple #[.agg (hC (askH (x.hs j) (x.c.N j) pl).1 n1 n2), .int .i64 ne, .int .i64 ce]) ∧ (MapIs pairE w' n1 (askH (x.hs j) (x.c.N j) pl).1.wants ∧ MapIs pairE w' n2 (askH (x.hs j) (x.c.N j) pl).1.has) ∧ Out W3 w' ∧ Out V w') := Lib.hid (fun V hX => ask_from hX (HE.out.wd.hw j) (HE.out.wd.hh j) rfl rfl rfl rfl HKP.out HSz.out HG.out)
  have HS3 := Lib.hid HE.out.out.size
  refine start_ (n := 18) (S := fun W' => Blk W' g 109 (WC x p m a b (.slice Aw x.way.length cw) term margin) ∧ Blk W' q 114 (mC kind i place) ∧ Out W3 W') (ds := [15]) #[false, false, false, false, false, false, false, false, false, false, false, false, false, false, false, false, false, false] (by kernel_rfl) rfl rfl (⟨HE.out.blk.drew, HQ.out.drew, (Only.refl _ _ _).drew⟩) (fun hHeld => ?_)
  refine pure_ (i := 0) (N := some 35) (v := ?_) (a' := ?_) #[true, false, false, false, false, false, false, false, false, false, false, false, false, false, false, false, false, false] rfl rfl (by kernel_rfl) (fun _ _ _ h => h) (Or.inl ⟨by rfl, ?_⟩) ?_ ?_
  rotate_left
  · intro w'
    go_simp
    (try with_reducible rfl)
  rotate_left
  · simp only [Act.put, List.setIfInBounds_toArray, List.set_cons_zero, List.set_cons_succ]
    rfl
  refine pure_ (i := 1) (N := some 36) (v := ?_) (a' := ?_) #[true, true, false, false, false, false, false, false, false, false, false, false, false, false, false, false, false, false] rfl rfl (by kernel_rfl) (fun _ _ _ h => h) (Or.inl ⟨by rfl, ?_⟩) ?_ ?_
  rotate_left
  · intro w'
    go_simp
    (try with_reducible rfl)
  rotate_left
  · simp only [Act.put, List.setIfInBounds_toArray, List.set_cons_zero, List.set_cons_succ]
    rfl
  refine pure_ (i := 2) (N := some 37) (v := ?_) (a' := ?_) #[true, true, true, false, false, false, false, false, false, false, false, false, false, false, false, false, false, false] rfl rfl (by kernel_rfl) (fun _ _ _ h => h) (Or.inl ⟨by rfl, ?_⟩) ?_ ?_
  rotate_left
  · intro w'
    go_simp
    (try with_reducible rfl)
  rotate_left
  · simp only [Act.put, List.setIfInBounds_toArray, List.set_cons_zero, List.set_cons_succ]
    rfl
  refine pure_ (i := 4) (N := some 39) (v := ?_) (a' := ?_) #[true, true, true, false, true, false, false, false, false, false, false, false, false, false, false, false, false, false] rfl rfl (by kernel_rfl) (fun _ _ _ h => h) (Or.inl ⟨by rfl, ?_⟩) ?_ ?_
  rotate_left
  · intro w'
    go_simp
    (try with_reducible rfl)
  rotate_left
  · simp only [Act.put, List.setIfInBounds_toArray, List.set_cons_zero, List.set_cons_succ]
    rfl
  refine pure_ (i := 6) (N := some 41) (v := ?_) (a' := ?_) #[true, true, true, false, true, false, true, false, false, false, false, false, false, false, false, false, false, false] rfl rfl (by kernel_rfl) (fun _ _ _ h => h) (Or.inl ⟨by rfl, ?_⟩) ?_ ?_
  rotate_left
  · intro w'
    go_simp
    (try with_reducible rfl)
  rotate_left
  · simp only [Act.put, List.setIfInBounds_toArray, List.set_cons_zero, List.set_cons_succ]
    rfl
  refine pure_ (i := 8) (N := some 43) (v := ?_) (a' := ?_) #[true, true, true, false, true, false, true, false, true, false, false, false, false, false, false, false, false, false] rfl rfl (by kernel_rfl) (fun _ _ _ h => h) (Or.inl ⟨by rfl, ?_⟩) ?_ ?_
  rotate_left
  · intro w'
    go_simp
    (try with_reducible rfl)
  rotate_left
  · simp only [Act.put, List.setIfInBounds_toArray, List.set_cons_zero, List.set_cons_succ]
    rfl
  refine take_ (i := 3) (N := some 38) (v := ?_) (a' := ?_) #[true, true, true, true, true, false, true, false, true, false, false, false, false, false, false, false, false, false] rfl rfl (by kernel_rfl) (fun _ _ _ h => h) (Or.inl ⟨by rfl, ?_⟩) hHeld ?_ ?_
  rotate_left
  · intro w' s0
    obtain ⟨t1, t2, t3⟩ := s0
    refine exec_load_part _ (.tmp 37) 41 ?_ g (4 + j * 4) (hC (x.hs j) (a j) (b j)) ?_ agg41 size41 109 _ t1 ?_
    · rfl
    · (first | rfl | (simp [Act.eval]))
    · exact WC_h j hj4
  rotate_left
  · simp only [Act.put, List.setIfInBounds_toArray, List.set_cons_zero, List.set_cons_succ]
    rfl
  refine take_ (i := 5) (N := some 40) (v := ?_) (a' := ?_) #[true, true, true, true, true, true, true, false, true, false, false, false, false, false, false, false, false, false] rfl rfl (by kernel_rfl) (fun _ _ _ h => h) (Or.inl ⟨by rfl, ?_⟩) hHeld ?_ ?_
  rotate_left
  · intro w' s0
    obtain ⟨t1, t2, t3⟩ := s0
    have c0 : w'.cell? ⟨g, 0, none⟩ = some (.pointer (some ⟨p, 0, none⟩)) := t1.cell 0
    go_simp
    (try with_reducible rfl)
  rotate_left
  · simp only [Act.put, List.setIfInBounds_toArray, List.set_cons_zero, List.set_cons_succ]
    rfl
  refine wpAnyLast_ready (rs := [7, 14]) (by kernel_rfl) (by simp) ?_
  refine AllReadyL.cons (o := ⟨some 42, Go.Op.call ⟨Go.Callee.value (Go.Operand.func 21), #[Go.Operand.tmp 40, Go.Operand.tmp 41], #[24, 3]⟩, 3, "outright.go:78", #[⟨5, Go.Ground.data⟩, ⟨6, Go.Ground.data⟩], none⟩) rfl (by decide) (fun K hK => ?_) ?_
  focus
    rw [if_pos (by rfl)]
    go_simp
    (go_at_call 21; (with_reducible refine (HNow.out _ hHeld.2.2).mono ?_); rintro e5 W5 ⟨rfl, rfl⟩)
    refine hK.out _ _ (hHeld) (fun hHeld => ?_)
    clear hK K
    try simp only [Act.put, List.setIfInBounds_toArray, List.set_cons_zero, List.set_cons_succ]
    refine wpAnyLast_ready (rs := [9, 14]) (by kernel_rfl) (by simp) ?_
    refine AllReadyL.cons (o := ⟨some 44, Go.Op.call ⟨Go.Callee.value (Go.Operand.func 26), #[Go.Operand.tmp 38, Go.Operand.tmp 42, Go.Operand.tmp 43], #[41, 3, 3]⟩, 42, "outright.go:78", #[⟨3, Go.Ground.data⟩, ⟨7, Go.Ground.data⟩, ⟨8, Go.Ground.data⟩, ⟨7, Go.Ground.chain⟩], none⟩) rfl (by decide) (fun K hK => ?_) ?_
    focus
      rw [if_pos (by rfl)]
      go_simp
      (go_at_call 26; (with_reducible refine (HAsk.out _ hHeld.2.2).mono ?_); rintro e6 W9 ⟨n1, n2, rfl, ⟨hm1, hm2⟩, hX6, hV6⟩; have HM1 := Lib.hid hm1; have HM2 := Lib.hid hm2; clear hm1 hm2; (try have HZ := Lib.hid (HZ.out.o hV6)))
      refine hK.out _ _ (⟨hHeld.1.o hV6, hHeld.2.1.o hV6, hX6⟩) (fun hHeld => ?_)
      clear hK K
      try simp only [Act.put, List.setIfInBounds_toArray, List.set_cons_zero, List.set_cons_succ]
      refine pure_ (i := 10) (N := some 34) (v := ?_) (a' := ?_) #[true, true, true, true, true, true, true, true, true, true, true, false, false, false, false, false, false, false] rfl rfl (by kernel_rfl) (fun _ _ _ h => h) (Or.inl ⟨by rfl, ?_⟩) ?_ ?_
      rotate_left
      · intro w'
        go_simp
        (try with_reducible rfl)
      rotate_left
      · simp only [Act.put, List.setIfInBounds_toArray, List.set_cons_zero, List.set_cons_succ]
        rfl
      refine pure_ (i := 11) (N := some 45) (v := ?_) (a' := ?_) #[true, true, true, true, true, true, true, true, true, true, true, true, false, false, false, false, false, false] rfl rfl (by kernel_rfl) (fun _ _ _ h => h) (Or.inl ⟨by rfl, ?_⟩) ?_ ?_
      rotate_left
      · intro w'
        go_simp
        (try with_reducible rfl)
      rotate_left
      · simp only [Act.put, List.setIfInBounds_toArray, List.set_cons_zero, List.set_cons_succ]
        rfl
      refine pure_ (i := 12) (N := some 46) (v := ?_) (a' := ?_) #[true, true, true, true, true, true, true, true, true, true, true, true, true, false, false, false, false, false] rfl rfl (by kernel_rfl) (fun _ _ _ h => h) (Or.inl ⟨by rfl, ?_⟩) ?_ ?_
      rotate_left
      · intro w'
        go_simp
        (try with_reducible rfl)
      rotate_left
      · simp only [Act.put, List.setIfInBounds_toArray, List.set_cons_zero, List.set_cons_succ]
        rfl
      refine pure_ (i := 13) (N := some 47) (v := ?_) (a' := ?_) #[true, true, true, true, true, true, true, true, true, true, true, true, true, true, false, false, false, false] rfl rfl (by kernel_rfl) (fun _ _ _ h => h) (Or.inl ⟨by rfl, ?_⟩) ?_ ?_
      rotate_left
      · intro w'
        go_simp
        (try with_reducible rfl)
      rotate_left
      · simp only [Act.put, List.setIfInBounds_toArray, List.set_cons_zero, List.set_cons_succ]
        rfl
      refine one_ (i := 14) (N := some 7) (oi := ⟨some 7, Go.Op.alloc 41, 0, "outright.go:78", #[], none⟩) #[true, true, true, true, true, true, true, true, true, true, true, true, true, true, true, false, false, false] rfl rfl (by kernel_rfl) (by decide) (fun K hK => ?_)
      refine step_alloc (by rfl) rfl (cs := #[.int .i64 0, .int .i64 0, .map none, .map none]) (t := 41) ?hr ?_
      (case hr => first | (go_simp; done) | (go_simp; rfl))
      intro h hh W7 hbox hO
      have HZ := Lib.hid hbox
      have hne : g ≠ h := (by rw [hh]; exact Nat.ne_of_lt hHeld.1.lt)
      have hge : W3.heap.size ≤ h := (by rw [hh]; exact hHeld.2.2.size)
      (try have HM1 := Lib.hid (mapIs_out HM1.out hO)); (try have HM2 := Lib.hid (mapIs_out HM2.out hO))
      clear hh hbox
      refine hK.out _ _ (⟨hHeld.1.o hO, hHeld.2.1.o hO, hHeld.2.2.thens hO⟩) (fun hHeld => ?_)
      clear hK K
      try simp only [Act.put, List.setIfInBounds_toArray, List.set_cons_zero, List.set_cons_succ]
      refine last_ (i := 15) (N := none) (oi := ⟨none, Go.Op.store 41 (Go.Operand.tmp 7) (Go.Operand.tmp 45), 0, "outright.go:78", #[⟨14, Go.Ground.data⟩, ⟨11, Go.Ground.data⟩, ⟨9, Go.Ground.chain⟩, ⟨0, Go.Ground.phase⟩, ⟨1, Go.Ground.phase⟩, ⟨2, Go.Ground.phase⟩, ⟨3, Go.Ground.phase⟩, ⟨4, Go.Ground.phase⟩, ⟨5, Go.Ground.phase⟩, ⟨6, Go.Ground.phase⟩, ⟨7, Go.Ground.phase⟩, ⟨8, Go.Ground.phase⟩, ⟨9, Go.Ground.phase⟩, ⟨10, Go.Ground.phase⟩, ⟨11, Go.Ground.phase⟩, { on := 12, ground := Go.Ground.textOnly Go.Departure.lateStores }, { on := 13, ground := Go.Ground.textOnly Go.Departure.lateStores }, ⟨14, Go.Ground.phase⟩], none⟩) #[true, true, true, true, true, true, true, true, true, true, true, true, true, true, true, true, false, false] rfl rfl (by kernel_rfl) (by decide) (fun K hK => ?_)
      refine step_store_part _ (by rfl) rfl (.tmp 7) (.tmp 45) 41 rfl h 0 ((hC (askH (x.hs j) (x.c.N j) pl).1 n1 n2)) rfl rfl size41 rfl 41 _ HZ.out (Nat.le_refl _) ((hC (askH (x.hs j) (x.c.N j) pl).1 n1 n2)) rfl ?_
      intro w7 hb7 hfr
      have HY7 := Lib.hid hb7
      have HE7 := Lib.hid ((HE.out.o hHeld.2.2).away HZ.out (by decide) (Nat.le_trans HS3.out hge) hne hfr)
      have HR7 := Lib.hid ((HR.out.o hHeld.2.2).away hfr (Nat.ne_of_lt (Nat.lt_of_lt_of_le HR.out.lt hge)))
      have HM1 := Lib.hid (mapIs_far HM1.out HZ.out hfr)
      have HM2 := Lib.hid (mapIs_far HM2.out HZ.out hfr)
      clear hb7 hfr hHeld
      refine hK.out _ _ ?_
      clear hK K
      try simp only [Act.put, List.setIfInBounds_toArray, List.set_cons_zero, List.set_cons_succ]
      refine pure_ (i := 16) (N := some 8) (v := ?_) (a' := ?_) #[true, true, true, true, true, true, true, true, true, true, true, true, true, true, true, true, true, false] rfl rfl (by kernel_rfl) (fun _ _ _ h => h) (Or.inl ⟨by rfl, ?_⟩) ?_ ?_
      rotate_left
      · intro w'
        go_simp
        (try with_reducible rfl)
      rotate_left
      · simp only [Act.put, List.setIfInBounds_toArray, List.set_cons_zero, List.set_cons_succ]
        rfl
      refine pure_ (i := 17) (N := some 9) (v := ?_) (a' := ?_) #[true, true, true, true, true, true, true, true, true, true, true, true, true, true, true, true, true, true] rfl rfl (by kernel_rfl) (fun _ _ _ h => h) (Or.inl ⟨by rfl, ?_⟩) ?_ ?_
      rotate_left
      · intro w'
        go_simp
        (try with_reducible rfl)
      rotate_left
      · simp only [Act.put, List.setIfInBounds_toArray, List.set_cons_zero, List.set_cons_succ]
        rfl
      refine done_ (by kernel_rfl) ?_
    rotate_left 1
    refine AllReadyL.cons (o := ⟨some 7, Go.Op.alloc 41, 0, "outright.go:78", #[], none⟩) rfl (by decide) (fun K hK => ?_) ?_
    focus
      refine step_alloc (by rfl) rfl (cs := #[.int .i64 0, .int .i64 0, .map none, .map none]) (t := 41) ?hr ?_
      (case hr => first | (go_simp; done) | (go_simp; rfl))
      intro h hh W7 hbox hO
      have HZ := Lib.hid hbox
      have hne : g ≠ h := (by rw [hh]; exact Nat.ne_of_lt hHeld.1.lt)
      have hge : W3.heap.size ≤ h := (by rw [hh]; exact hHeld.2.2.size)
      (try have HM1 := Lib.hid (mapIs_out HM1.out hO)); (try have HM2 := Lib.hid (mapIs_out HM2.out hO))
      clear hh hbox
      refine hK.out _ _ (⟨hHeld.1.o hO, hHeld.2.1.o hO, hHeld.2.2.thens hO⟩) (fun hHeld => ?_)
      clear hK K
      try simp only [Act.put, List.setIfInBounds_toArray, List.set_cons_zero, List.set_cons_succ]
      refine one_ (i := 9) (N := some 44) (oi := ⟨some 44, Go.Op.call ⟨Go.Callee.value (Go.Operand.func 26), #[Go.Operand.tmp 38, Go.Operand.tmp 42, Go.Operand.tmp 43], #[41, 3, 3]⟩, 42, "outright.go:78", #[⟨3, Go.Ground.data⟩, ⟨7, Go.Ground.data⟩, ⟨8, Go.Ground.data⟩, ⟨7, Go.Ground.chain⟩], none⟩) #[true, true, true, true, true, true, true, true, true, true, false, false, false, false, true, false, false, false] rfl rfl (by kernel_rfl) (by decide) (fun K hK => ?_)
      rw [if_pos (by rfl)]
      go_simp
      (go_at_call 26; (with_reducible refine (HAsk.out _ hHeld.2.2).mono ?_); rintro e6 W9 ⟨n1, n2, rfl, ⟨hm1, hm2⟩, hX6, hV6⟩; have HM1 := Lib.hid hm1; have HM2 := Lib.hid hm2; clear hm1 hm2; (try have HZ := Lib.hid (HZ.out.o hV6)))
      refine hK.out _ _ (⟨hHeld.1.o hV6, hHeld.2.1.o hV6, hX6⟩) (fun hHeld => ?_)
      clear hK K
      try simp only [Act.put, List.setIfInBounds_toArray, List.set_cons_zero, List.set_cons_succ]
      refine pure_ (i := 10) (N := some 34) (v := ?_) (a' := ?_) #[true, true, true, true, true, true, true, true, true, true, true, false, false, false, true, false, false, false] rfl rfl (by kernel_rfl) (fun _ _ _ h => h) (Or.inl ⟨by rfl, ?_⟩) ?_ ?_
      rotate_left
      · intro w'
        go_simp
        (try with_reducible rfl)
      rotate_left
      · simp only [Act.put, List.setIfInBounds_toArray, List.set_cons_zero, List.set_cons_succ]
        rfl
      refine pure_ (i := 11) (N := some 45) (v := ?_) (a' := ?_) #[true, true, true, true, true, true, true, true, true, true, true, true, false, false, true, false, false, false] rfl rfl (by kernel_rfl) (fun _ _ _ h => h) (Or.inl ⟨by rfl, ?_⟩) ?_ ?_
      rotate_left
      · intro w'
        go_simp
        (try with_reducible rfl)
      rotate_left
      · simp only [Act.put, List.setIfInBounds_toArray, List.set_cons_zero, List.set_cons_succ]
        rfl
      refine pure_ (i := 12) (N := some 46) (v := ?_) (a' := ?_) #[true, true, true, true, true, true, true, true, true, true, true, true, true, false, true, false, false, false] rfl rfl (by kernel_rfl) (fun _ _ _ h => h) (Or.inl ⟨by rfl, ?_⟩) ?_ ?_
      rotate_left
      · intro w'
        go_simp
        (try with_reducible rfl)
      rotate_left
      · simp only [Act.put, List.setIfInBounds_toArray, List.set_cons_zero, List.set_cons_succ]
        rfl
      refine pure_ (i := 13) (N := some 47) (v := ?_) (a' := ?_) #[true, true, true, true, true, true, true, true, true, true, true, true, true, true, true, false, false, false] rfl rfl (by kernel_rfl) (fun _ _ _ h => h) (Or.inl ⟨by rfl, ?_⟩) ?_ ?_
      rotate_left
      · intro w'
        go_simp
        (try with_reducible rfl)
      rotate_left
      · simp only [Act.put, List.setIfInBounds_toArray, List.set_cons_zero, List.set_cons_succ]
        rfl
      refine last_ (i := 15) (N := none) (oi := ⟨none, Go.Op.store 41 (Go.Operand.tmp 7) (Go.Operand.tmp 45), 0, "outright.go:78", #[⟨14, Go.Ground.data⟩, ⟨11, Go.Ground.data⟩, ⟨9, Go.Ground.chain⟩, ⟨0, Go.Ground.phase⟩, ⟨1, Go.Ground.phase⟩, ⟨2, Go.Ground.phase⟩, ⟨3, Go.Ground.phase⟩, ⟨4, Go.Ground.phase⟩, ⟨5, Go.Ground.phase⟩, ⟨6, Go.Ground.phase⟩, ⟨7, Go.Ground.phase⟩, ⟨8, Go.Ground.phase⟩, ⟨9, Go.Ground.phase⟩, ⟨10, Go.Ground.phase⟩, ⟨11, Go.Ground.phase⟩, { on := 12, ground := Go.Ground.textOnly Go.Departure.lateStores }, { on := 13, ground := Go.Ground.textOnly Go.Departure.lateStores }, ⟨14, Go.Ground.phase⟩], none⟩) #[true, true, true, true, true, true, true, true, true, true, true, true, true, true, true, true, false, false] rfl rfl (by kernel_rfl) (by decide) (fun K hK => ?_)
      refine step_store_part _ (by rfl) rfl (.tmp 7) (.tmp 45) 41 rfl h 0 ((hC (askH (x.hs j) (x.c.N j) pl).1 n1 n2)) rfl rfl size41 rfl 41 _ HZ.out (Nat.le_refl _) ((hC (askH (x.hs j) (x.c.N j) pl).1 n1 n2)) rfl ?_
      intro w7 hb7 hfr
      have HY7 := Lib.hid hb7
      have HE7 := Lib.hid ((HE.out.o hHeld.2.2).away HZ.out (by decide) (Nat.le_trans HS3.out hge) hne hfr)
      have HR7 := Lib.hid ((HR.out.o hHeld.2.2).away hfr (Nat.ne_of_lt (Nat.lt_of_lt_of_le HR.out.lt hge)))
      have HM1 := Lib.hid (mapIs_far HM1.out HZ.out hfr)
      have HM2 := Lib.hid (mapIs_far HM2.out HZ.out hfr)
      clear hb7 hfr hHeld
      refine hK.out _ _ ?_
      clear hK K
      try simp only [Act.put, List.setIfInBounds_toArray, List.set_cons_zero, List.set_cons_succ]
      refine pure_ (i := 16) (N := some 8) (v := ?_) (a' := ?_) #[true, true, true, true, true, true, true, true, true, true, true, true, true, true, true, true, true, false] rfl rfl (by kernel_rfl) (fun _ _ _ h => h) (Or.inl ⟨by rfl, ?_⟩) ?_ ?_
      rotate_left
      · intro w'
        go_simp
        (try with_reducible rfl)
      rotate_left
      · simp only [Act.put, List.setIfInBounds_toArray, List.set_cons_zero, List.set_cons_succ]
        rfl
      refine pure_ (i := 17) (N := some 9) (v := ?_) (a' := ?_) #[true, true, true, true, true, true, true, true, true, true, true, true, true, true, true, true, true, true] rfl rfl (by kernel_rfl) (fun _ _ _ h => h) (Or.inl ⟨by rfl, ?_⟩) ?_ ?_
      rotate_left
      · intro w'
        go_simp
        (try with_reducible rfl)
      rotate_left
      · simp only [Act.put, List.setIfInBounds_toArray, List.set_cons_zero, List.set_cons_succ]
        rfl
      refine done_ (by kernel_rfl) ?_
    rotate_left 1
    exact AllReadyL.nil
  rotate_left 2
  refine AllReadyL.cons (o := ⟨some 7, Go.Op.alloc 41, 0, "outright.go:78", #[], none⟩) rfl (by decide) (fun K hK => ?_) ?_
  focus
    refine step_alloc (by rfl) rfl (cs := #[.int .i64 0, .int .i64 0, .map none, .map none]) (t := 41) ?hr ?_
    (case hr => first | (go_simp; done) | (go_simp; rfl))
    intro h hh W7 hbox hO
    have HZ := Lib.hid hbox
    have hne : g ≠ h := (by rw [hh]; exact Nat.ne_of_lt hHeld.1.lt)
    have hge : W3.heap.size ≤ h := (by rw [hh]; exact hHeld.2.2.size)
    (try have HM1 := Lib.hid (mapIs_out HM1.out hO)); (try have HM2 := Lib.hid (mapIs_out HM2.out hO))
    clear hh hbox
    refine hK.out _ _ (⟨hHeld.1.o hO, hHeld.2.1.o hO, hHeld.2.2.thens hO⟩) (fun hHeld => ?_)
    clear hK K
    try simp only [Act.put, List.setIfInBounds_toArray, List.set_cons_zero, List.set_cons_succ]
    refine one_ (i := 7) (N := some 42) (oi := ⟨some 42, Go.Op.call ⟨Go.Callee.value (Go.Operand.func 21), #[Go.Operand.tmp 40, Go.Operand.tmp 41], #[24, 3]⟩, 3, "outright.go:78", #[⟨5, Go.Ground.data⟩, ⟨6, Go.Ground.data⟩], none⟩) #[true, true, true, true, true, true, true, true, true, false, false, false, false, false, true, false, false, false] rfl rfl (by kernel_rfl) (by decide) (fun K hK => ?_)
    rw [if_pos (by rfl)]
    go_simp
    (go_at_call 21; (with_reducible refine (HNow.out _ hHeld.2.2).mono ?_); rintro e5 W5 ⟨rfl, rfl⟩)
    refine hK.out _ _ (hHeld) (fun hHeld => ?_)
    clear hK K
    try simp only [Act.put, List.setIfInBounds_toArray, List.set_cons_zero, List.set_cons_succ]
    refine one_ (i := 9) (N := some 44) (oi := ⟨some 44, Go.Op.call ⟨Go.Callee.value (Go.Operand.func 26), #[Go.Operand.tmp 38, Go.Operand.tmp 42, Go.Operand.tmp 43], #[41, 3, 3]⟩, 42, "outright.go:78", #[⟨3, Go.Ground.data⟩, ⟨7, Go.Ground.data⟩, ⟨8, Go.Ground.data⟩, ⟨7, Go.Ground.chain⟩], none⟩) #[true, true, true, true, true, true, true, true, true, true, false, false, false, false, true, false, false, false] rfl rfl (by kernel_rfl) (by decide) (fun K hK => ?_)
    rw [if_pos (by rfl)]
    go_simp
    (go_at_call 26; (with_reducible refine (HAsk.out _ hHeld.2.2).mono ?_); rintro e6 W9 ⟨n1, n2, rfl, ⟨hm1, hm2⟩, hX6, hV6⟩; have HM1 := Lib.hid hm1; have HM2 := Lib.hid hm2; clear hm1 hm2; (try have HZ := Lib.hid (HZ.out.o hV6)))
    refine hK.out _ _ (⟨hHeld.1.o hV6, hHeld.2.1.o hV6, hX6⟩) (fun hHeld => ?_)
    clear hK K
    try simp only [Act.put, List.setIfInBounds_toArray, List.set_cons_zero, List.set_cons_succ]
    refine pure_ (i := 10) (N := some 34) (v := ?_) (a' := ?_) #[true, true, true, true, true, true, true, true, true, true, true, false, false, false, true, false, false, false] rfl rfl (by kernel_rfl) (fun _ _ _ h => h) (Or.inl ⟨by rfl, ?_⟩) ?_ ?_
    rotate_left
    · intro w'
      go_simp
      (try with_reducible rfl)
    rotate_left
    · simp only [Act.put, List.setIfInBounds_toArray, List.set_cons_zero, List.set_cons_succ]
      rfl
    refine pure_ (i := 11) (N := some 45) (v := ?_) (a' := ?_) #[true, true, true, true, true, true, true, true, true, true, true, true, false, false, true, false, false, false] rfl rfl (by kernel_rfl) (fun _ _ _ h => h) (Or.inl ⟨by rfl, ?_⟩) ?_ ?_
    rotate_left
    · intro w'
      go_simp
      (try with_reducible rfl)
    rotate_left
    · simp only [Act.put, List.setIfInBounds_toArray, List.set_cons_zero, List.set_cons_succ]
      rfl
    refine pure_ (i := 12) (N := some 46) (v := ?_) (a' := ?_) #[true, true, true, true, true, true, true, true, true, true, true, true, true, false, true, false, false, false] rfl rfl (by kernel_rfl) (fun _ _ _ h => h) (Or.inl ⟨by rfl, ?_⟩) ?_ ?_
    rotate_left
    · intro w'
      go_simp
      (try with_reducible rfl)
    rotate_left
    · simp only [Act.put, List.setIfInBounds_toArray, List.set_cons_zero, List.set_cons_succ]
      rfl
    refine pure_ (i := 13) (N := some 47) (v := ?_) (a' := ?_) #[true, true, true, true, true, true, true, true, true, true, true, true, true, true, true, false, false, false] rfl rfl (by kernel_rfl) (fun _ _ _ h => h) (Or.inl ⟨by rfl, ?_⟩) ?_ ?_
    rotate_left
    · intro w'
      go_simp
      (try with_reducible rfl)
    rotate_left
    · simp only [Act.put, List.setIfInBounds_toArray, List.set_cons_zero, List.set_cons_succ]
      rfl
    refine last_ (i := 15) (N := none) (oi := ⟨none, Go.Op.store 41 (Go.Operand.tmp 7) (Go.Operand.tmp 45), 0, "outright.go:78", #[⟨14, Go.Ground.data⟩, ⟨11, Go.Ground.data⟩, ⟨9, Go.Ground.chain⟩, ⟨0, Go.Ground.phase⟩, ⟨1, Go.Ground.phase⟩, ⟨2, Go.Ground.phase⟩, ⟨3, Go.Ground.phase⟩, ⟨4, Go.Ground.phase⟩, ⟨5, Go.Ground.phase⟩, ⟨6, Go.Ground.phase⟩, ⟨7, Go.Ground.phase⟩, ⟨8, Go.Ground.phase⟩, ⟨9, Go.Ground.phase⟩, ⟨10, Go.Ground.phase⟩, ⟨11, Go.Ground.phase⟩, { on := 12, ground := Go.Ground.textOnly Go.Departure.lateStores }, { on := 13, ground := Go.Ground.textOnly Go.Departure.lateStores }, ⟨14, Go.Ground.phase⟩], none⟩) #[true, true, true, true, true, true, true, true, true, true, true, true, true, true, true, true, false, false] rfl rfl (by kernel_rfl) (by decide) (fun K hK => ?_)
    refine step_store_part _ (by rfl) rfl (.tmp 7) (.tmp 45) 41 rfl h 0 ((hC (askH (x.hs j) (x.c.N j) pl).1 n1 n2)) rfl rfl size41 rfl 41 _ HZ.out (Nat.le_refl _) ((hC (askH (x.hs j) (x.c.N j) pl).1 n1 n2)) rfl ?_
    intro w7 hb7 hfr
    have HY7 := Lib.hid hb7
    have HE7 := Lib.hid ((HE.out.o hHeld.2.2).away HZ.out (by decide) (Nat.le_trans HS3.out hge) hne hfr)
    have HR7 := Lib.hid ((HR.out.o hHeld.2.2).away hfr (Nat.ne_of_lt (Nat.lt_of_lt_of_le HR.out.lt hge)))
    have HM1 := Lib.hid (mapIs_far HM1.out HZ.out hfr)
    have HM2 := Lib.hid (mapIs_far HM2.out HZ.out hfr)
    clear hb7 hfr hHeld
    refine hK.out _ _ ?_
    clear hK K
    try simp only [Act.put, List.setIfInBounds_toArray, List.set_cons_zero, List.set_cons_succ]
    refine pure_ (i := 16) (N := some 8) (v := ?_) (a' := ?_) #[true, true, true, true, true, true, true, true, true, true, true, true, true, true, true, true, true, false] rfl rfl (by kernel_rfl) (fun _ _ _ h => h) (Or.inl ⟨by rfl, ?_⟩) ?_ ?_
    rotate_left
    · intro w'
      go_simp
      (try with_reducible rfl)
    rotate_left
    · simp only [Act.put, List.setIfInBounds_toArray, List.set_cons_zero, List.set_cons_succ]
      rfl
    refine pure_ (i := 17) (N := some 9) (v := ?_) (a' := ?_) #[true, true, true, true, true, true, true, true, true, true, true, true, true, true, true, true, true, true] rfl rfl (by kernel_rfl) (fun _ _ _ h => h) (Or.inl ⟨by rfl, ?_⟩) ?_ ?_
    rotate_left
    · intro w'
      go_simp
      (try with_reducible rfl)
    rotate_left
    · simp only [Act.put, List.setIfInBounds_toArray, List.set_cons_zero, List.set_cons_succ]
      rfl
    refine done_ (by kernel_rfl) ?_
  rotate_left 1
  exact AllReadyL.nil
  all_goals
    go_wp2_with (first
      | ((with_reducible refine gate_dst (N := 49) rfl ?_); refine wpList_load_part _ rfl (.tmp 7) 41 rfl h 0 (hC (askH (x.hs j) (x.c.N j) pl).1 n1 n2) rfl agg41 size41 41 _ HY7.out (fun k u hu => (by rw [Nat.zero_add]; simpa using hu)) ?_)
      | (refine wpList_store_part _ rfl (.tmp 51) (.tmp 49) 41 rfl g (4 + j * 4) (hC (askH (x.hs j) (x.c.N j) pl).1 n1 n2) (by simp [Act.eval]) rfl size41 rfl 109 _ HE7.out.blk hfit (WC { x with hs := setH x.hs j (askH (x.hs j) (x.c.N j) pl).1 } p m (updN a j n1) (updN b j n2) (.slice Aw x.way.length cw) term margin) (WC_setH j hj4 (askH (x.hs j) (x.c.N j) pl).1 n1 n2) ?_; intro w8 hbz hfz; have HR8 := Lib.hid (HR7.out.away hfz hgr.symm); have HE8 := Lib.hid (HE7.out.withH j HM1.out HM2.out hbz hfz); have g20b : w8.cell? ⟨g, 20, none⟩ = some (.slice Aw x.way.length cw) := HE8.out.blk.cell 20; clear hbz hfz)
      | ((with_reducible refine gate_dst (N := 177) rfl ?_); refine wpList_load_part _ rfl (.tmp 2) 109 rfl g 0 (WC { x with hs := setH x.hs j (askH (x.hs j) (x.c.N j) pl).1 } p m (updN a j n1) (updN b j n2) (.slice Aw x.way.length cw) term margin) rfl agg109 size109 109 _ HE8.out.blk (fun k u hu => (by rw [Nat.zero_add]; simpa using hu)) ?_)
      | (refine wpList_store_part _ rfl (.tmp 4) (.tmp 177) 109 rfl r 0 (WC { x with hs := setH x.hs j (askH (x.hs j) (x.c.N j) pl).1 } p m (updN a j n1) (updN b j n2) (.slice Aw x.way.length cw) term margin) rfl rfl size109 HE8.out.wd.one 109 _ HR8.out (Nat.le_refl _) (WC { x with hs := setH x.hs j (askH (x.hs j) (x.c.N j) pl).1 } p m (updN a j n1) (updN b j n2) (.slice Aw x.way.length cw) term margin) rfl ?_; intro w9 hbz hfz; have HR9 := Lib.hid hbz; have HE9 := Lib.hid (HE8.out.away HR8.out (by decide) hrw hgr hfz); clear hbz hfz)
      | fail)
    exact bodyPost_ret (results_blk1 Try.results51 _ _ r (WC { x with hs := setH x.hs j (askH (x.hs j) (x.c.N j) pl).1 } p m (updN a j n1) (updN b j n2) (.slice Aw x.way.length cw) term margin) rfl agg109 size109 HR9.out) rfl ⟨_, _, _, _, rfl, HE9.out.wd, Out.wide HE9.out.out⟩
end Go.Proofs.Ytefllgpehhlkoaa.Mar
