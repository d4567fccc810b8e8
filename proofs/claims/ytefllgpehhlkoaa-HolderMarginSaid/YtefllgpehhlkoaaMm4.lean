/-
  HolderMargin: a want comes to the authority.
  HolderMargin: a message comes; moves: a tick, a crash, a restart, nothing.
-/
import Derived.Test.YtefllgpehhlkoaaMm3
namespace Go.Proofs.Ytefllgpehhlkoaa.Mar
open Go.RowKit Go.Maps Go.Proofs.YtefllgpehhlkoaaW.PrintWords Go.Proofs.YtefllgpehhlkoaaW.PrintLast
set_option linter.unusedVariables false
set_option linter.unusedSimpArgs false

set_option maxRecDepth 100000 in
set_option maxHeartbeats 8000000 in
theorem come1a (w : World) (lo p : Nat) (x : MW) (mm : Word) (m : Option Nat) (a b : Nat → Option Nat) (v : Value) (term margin : Int) (hk : Wd2 w lo p x m a b v) (hh : 1 ≤ mm.holder ∧ mm.holder ≤ 3) (hp : (Lit.int .i64 mm.place).wf = true) (hkd : mm.kind = 1) (hep : -9223372036854775808 ≤ x.s.epoch) (hsz : (lasting x.s.hs (x.c.N 0)).length < 1000000) (hwl : x.way.length ≤ 300) (hok : (grantL x.s (x.c.N 0) term mm.place (mm.holder : Int)).2.2 = 0) :
    Calls Try.prog 65 #[.agg (WC x p m a b v term margin), .agg (wC mm)] w (Hands w lo p { x with s := (grantL x.s (x.c.N 0) term mm.place (mm.holder : Int)).1, way := x.way ++ [⟨2, mm.holder, mm.place, mm.num, (grantL x.s (x.c.N 0) term mm.place (mm.holder : Int)).2.1⟩] } term margin) := by
  obtain ⟨hh1, hh3⟩ := hh
  obtain ⟨Aw, cw, rfl⟩ := Kd.R_slice hk.way
  have HEp := Lib.hid hep
  have HSz := Lib.hid hsz
  have HWl := Lib.hid hwl
  obtain ⟨ne, hne⟩ : ∃ ne, ne = (grantL x.s (x.c.N 0) term mm.place (mm.holder : Int)).2.1 := ⟨_, rfl⟩
  have HNe := Lib.hid hne
  obtain ⟨ans, hans⟩ : ∃ ans : Word, ans = ⟨2, mm.holder, mm.place, mm.num, ne⟩ := ⟨_, rfl⟩
  have HAns := Lib.hid hans
  rw [← hne, ← hans]
  have HG : Hid ((grantL x.s (x.c.N 0) term mm.place (mm.holder : Int)) = ((grantL x.s (x.c.N 0) term mm.place (mm.holder : Int)).1, ne, 0)) := Lib.hid (by rw [hne, ← hok])
  clear hok
  clear hne hans hep hsz hwl
  have HKW := Lib.hid hk
  have HKP := Lib.hid hp
  have HLow := Lib.hid hk.full
  have hh4 : mm.holder < 4 := by omega
  have hhI : (mm.holder : Int) < 4 := by omega
  have hh0 : ¬ (mm.holder : Int) < 0 := by omega
  have hu41 := Try.underlying41
  have hu57 := Try.underlying57
  have hu106 := Try.underlying106
  have hu107 := Try.underlying107
  have hu141 := Try.underlying141
  have HB0 := Lib.hid (Only.refl w.heap.size w.heap.size w)
  clear hk hp
  go_enter Try.func65, Try.ntmps65
  go_wp2_with (first
    | ((with_reducible refine gate_dst (N := 2) rfl ?_); refine box_event rfl (N := 2) rfl (cs := (WC x p m a b (.slice Aw x.way.length cw) term margin)) (t := 109) ?hr ?_; (case hr => first | (go_simp; done) | (go_simp; rfl)); intro g hg W1 hbox hb; have HE1 : Hid (Ed w W1 g lo p x m a b (.slice Aw x.way.length cw) term margin) := Lib.hid ⟨hbox, HKW.out.kept (Out.of hb), Out.of hb, (by rw [hg]; exact Nat.le_refl _), HLow.out⟩; clear hg hbox hb)
    | ((with_reducible refine gate_dst (N := 3) rfl ?_); refine box_event rfl (N := 3) rfl (cs := wC mm) (t := 141) ?hr ?_; (case hr => first | (go_simp; done) | (go_simp; rfl)); intro q hq W2 hbox hb; have HQ2 := Lib.hid (show Blk W2 q 141 (wC mm) from hbox); have HE2 := Lib.hid (HE1.out.o (Out.of hb)); have hgq : g ≠ q := (by rw [hq]; exact Nat.ne_of_lt HE1.out.blk.lt); clear hq hbox hb)
    | ((with_reducible refine gate_dst (N := 4) rfl ?_); refine box_event rfl (N := 4) rfl (cs := Z24) (t := 109) ?hr ?_; (case hr => first | (go_simp; done) | (go_simp; rfl)); intro r hr W3 hbox hb; have HR := Lib.hid (show Blk W3 r 109 Z24 from hbox); have HE := Lib.hid (HE2.out.o (Out.of hb)); have HQ := Lib.hid (HQ2.out.o (Out.of hb)); have hgr : g ≠ r := (by rw [hr]; exact Nat.ne_of_lt HE2.out.blk.lt); have hrw : w.heap.size ≤ r := (by rw [hr]; exact HE2.out.out.size); have HNow : Hid (∀ V, Out W3 V → Calls Try.prog 21 #[.pointer (some ⟨p, 0, none⟩), .int .i64 (mm.holder : Int)] V fun e w' => e = .returned (.int .i64 (x.c.N mm.holder)) ∧ V = w') := Lib.hid (fun V hX => now_some V lo (lo + 4) p 4 x.c (HE.out.wd.kept hX).clk mm.holder (by decide) hh4); have c0 : W3.cell? ⟨g, 0, none⟩ = some (.pointer (some ⟨p, 0, none⟩)) := HE.out.blk.cell 0; have q1 : W3.cell? ⟨q, 1, none⟩ = some (.int .i64 (mm.holder : Int)) := HQ.out.cell 1; have q0 : W3.cell? ⟨q, 0, none⟩ = some (.int .i64 1) := (by rw [← hkd]; exact HQ.out.cell 0); clear hr hbox hb HE1 HE2 HQ2)
    | (go_at_call 21; (with_reducible refine (HNow.out _ (Only.refl _ _ _)).mono ?_); rintro e5 W5 ⟨rfl, rfl⟩)
    | fail)
  have HS3 := Lib.hid HE.out.out.size
  have HNow0 : Hid (∀ V, Out W3 V → Calls Try.prog 21 #[.pointer (some ⟨p, 0, none⟩), .int .i64 0] V fun e w' => e = .returned (.int .i64 (x.c.N 0)) ∧ V = w') := Lib.hid (fun V hX => now_some V lo (lo + 4) p 4 x.c (HE.out.wd.kept hX).clk 0 (by decide) (by omega))
  have HGr : Hid (∀ V, Out W3 V → Calls Try.prog 34 #[.agg (sC x.s m), .int .i64 (x.c.N 0), .int .i64 term, .int .i64 mm.place, .int .i64 (mm.holder : Int)] V fun e w' => ∃ m1, e = .returned (.tuple #[.agg (sC (grantL x.s (x.c.N 0) term mm.place (mm.holder : Int)).1 m1), .int .i64 ne, .int .i64 0]) ∧ MapIs tripE w' m1 (grantL x.s (x.c.N 0) term mm.place (mm.holder : Int)).1.hs ∧ Out W3 w' ∧ Out V w') := Lib.hid (fun V hX => (by have h := grantL_from hX (S := x.s) (now := x.c.N 0) (term := term) (place := mm.place) (holder := (mm.holder : Int)) HE.out.wd.s rfl rfl rfl rfl HKP.out HEp.out HSz.out HG.out; exact h))
  go_wp2_with fail
  refine start_ (n := 21) (S := fun W' => Blk W' g 109 (WC x p m a b (.slice Aw x.way.length cw) term margin) ∧ Blk W' q 141 (wC mm) ∧ Out W3 W') (ds := [18]) #[false, false, false, false, false, false, false, false, false, false, false, false, false, false, false, false, false, false, false, false, false] (by kernel_rfl) rfl rfl (⟨HE.out.blk.drew, HQ.out.drew, (Only.refl _ _ _).drew⟩) (fun hHeld => ?_)
  refine pure_ (i := 0) (N := some 26) (v := ?_) (a' := ?_) #[true, false, false, false, false, false, false, false, false, false, false, false, false, false, false, false, false, false, false, false, false] rfl rfl (by kernel_rfl) (fun _ _ _ h => h) (Or.inl ⟨by rfl, ?_⟩) ?_ ?_
  rotate_left
  · intro w'
    go_simp
    (try with_reducible rfl)
  rotate_left
  · simp only [Act.put, List.setIfInBounds_toArray, List.set_cons_zero, List.set_cons_succ]
    rfl
  refine pure_ (i := 2) (N := some 28) (v := ?_) (a' := ?_) #[true, false, true, false, false, false, false, false, false, false, false, false, false, false, false, false, false, false, false, false, false] rfl rfl (by kernel_rfl) (fun _ _ _ h => h) (Or.inl ⟨by rfl, ?_⟩) ?_ ?_
  rotate_left
  · intro w'
    go_simp
    (try with_reducible rfl)
  rotate_left
  · simp only [Act.put, List.setIfInBounds_toArray, List.set_cons_zero, List.set_cons_succ]
    rfl
  refine pure_ (i := 5) (N := some 31) (v := ?_) (a' := ?_) #[true, false, true, false, false, true, false, false, false, false, false, false, false, false, false, false, false, false, false, false, false] rfl rfl (by kernel_rfl) (fun _ _ _ h => h) (Or.inl ⟨by rfl, ?_⟩) ?_ ?_
  rotate_left
  · intro w'
    go_simp
    (try with_reducible rfl)
  rotate_left
  · simp only [Act.put, List.setIfInBounds_toArray, List.set_cons_zero, List.set_cons_succ]
    rfl
  refine pure_ (i := 6) (N := some 32) (v := ?_) (a' := ?_) #[true, false, true, false, false, true, true, false, false, false, false, false, false, false, false, false, false, false, false, false, false] rfl rfl (by kernel_rfl) (fun _ _ _ h => h) (Or.inl ⟨by rfl, ?_⟩) ?_ ?_
  rotate_left
  · intro w'
    go_simp
    (try with_reducible rfl)
  rotate_left
  · simp only [Act.put, List.setIfInBounds_toArray, List.set_cons_zero, List.set_cons_succ]
    rfl
  refine pure_ (i := 8) (N := some 34) (v := ?_) (a' := ?_) #[true, false, true, false, false, true, true, false, true, false, false, false, false, false, false, false, false, false, false, false, false] rfl rfl (by kernel_rfl) (fun _ _ _ h => h) (Or.inl ⟨by rfl, ?_⟩) ?_ ?_
  rotate_left
  · intro w'
    go_simp
    (try with_reducible rfl)
  rotate_left
  · simp only [Act.put, List.setIfInBounds_toArray, List.set_cons_zero, List.set_cons_succ]
    rfl
  refine pure_ (i := 10) (N := some 36) (v := ?_) (a' := ?_) #[true, false, true, false, false, true, true, false, true, false, true, false, false, false, false, false, false, false, false, false, false] rfl rfl (by kernel_rfl) (fun _ _ _ h => h) (Or.inl ⟨by rfl, ?_⟩) ?_ ?_
  rotate_left
  · intro w'
    go_simp
    (try with_reducible rfl)
  rotate_left
  · simp only [Act.put, List.setIfInBounds_toArray, List.set_cons_zero, List.set_cons_succ]
    rfl
  refine take_ (i := 1) (N := some 27) (v := ?_) (a' := ?_) #[true, true, true, false, false, true, true, false, true, false, true, false, false, false, false, false, false, false, false, false, false] rfl rfl (by kernel_rfl) (fun _ _ _ h => h) (Or.inl ⟨by rfl, ?_⟩) hHeld ?_ ?_
  rotate_left
  · intro w' s0
    obtain ⟨t1, t2, t3⟩ := s0
    refine exec_load_part _ (.tmp 26) 57 ?_ g 1 (sC x.s m) ?_ agg57 size57 109 _ t1 ?_
    · rfl
    · (first | rfl | (simp [Act.eval]))
    · exact WC_s
  rotate_left
  · simp only [Act.put, List.setIfInBounds_toArray, List.set_cons_zero, List.set_cons_succ]
    rfl
  refine take_ (i := 3) (N := some 29) (v := ?_) (a' := ?_) #[true, true, true, true, false, true, true, false, true, false, true, false, false, false, false, false, false, false, false, false, false] rfl rfl (by kernel_rfl) (fun _ _ _ h => h) (Or.inl ⟨by rfl, ?_⟩) hHeld ?_ ?_
  rotate_left
  · intro w' s0
    obtain ⟨t1, t2, t3⟩ := s0
    have c0 : w'.cell? ⟨g, 0, none⟩ = some (.pointer (some ⟨p, 0, none⟩)) := t1.cell 0
    go_simp
    (try with_reducible rfl)
  rotate_left
  · simp only [Act.put, List.setIfInBounds_toArray, List.set_cons_zero, List.set_cons_succ]
    rfl
  refine take_ (i := 7) (N := some 33) (v := ?_) (a' := ?_) #[true, true, true, true, false, true, true, true, true, false, true, false, false, false, false, false, false, false, false, false, false] rfl rfl (by kernel_rfl) (fun _ _ _ h => h) (Or.inl ⟨by rfl, ?_⟩) hHeld ?_ ?_
  rotate_left
  · intro w' s0
    obtain ⟨t1, t2, t3⟩ := s0
    have c0 : w'.cell? ⟨g, 21, none⟩ = some (.int .i64 term) := t1.cell 21
    go_simp
    (try with_reducible rfl)
  rotate_left
  · simp only [Act.put, List.setIfInBounds_toArray, List.set_cons_zero, List.set_cons_succ]
    rfl
  refine take_ (i := 9) (N := some 35) (v := ?_) (a' := ?_) #[true, true, true, true, false, true, true, true, true, true, true, false, false, false, false, false, false, false, false, false, false] rfl rfl (by kernel_rfl) (fun _ _ _ h => h) (Or.inl ⟨by rfl, ?_⟩) hHeld ?_ ?_
  rotate_left
  · intro w' s0
    obtain ⟨t1, t2, t3⟩ := s0
    have c0 : w'.cell? ⟨q, 2, none⟩ = some (.int .i64 mm.place) := t2.cell 2
    go_simp
    (try with_reducible rfl)
  rotate_left
  · simp only [Act.put, List.setIfInBounds_toArray, List.set_cons_zero, List.set_cons_succ]
    rfl
  refine take_ (i := 11) (N := some 37) (v := ?_) (a' := ?_) #[true, true, true, true, false, true, true, true, true, true, true, true, false, false, false, false, false, false, false, false, false] rfl rfl (by kernel_rfl) (fun _ _ _ h => h) (Or.inl ⟨by rfl, ?_⟩) hHeld ?_ ?_
  rotate_left
  · intro w' s0
    obtain ⟨t1, t2, t3⟩ := s0
    have c0 : w'.cell? ⟨q, 1, none⟩ = some (.int .i64 (mm.holder : Int)) := t2.cell 1
    go_simp
    (try with_reducible rfl)
  rotate_left
  · simp only [Act.put, List.setIfInBounds_toArray, List.set_cons_zero, List.set_cons_succ]
    rfl
  refine wpAnyLast_ready (rs := [4, 17]) (by kernel_rfl) (by simp) ?_
  refine AllReadyL.cons (o := ⟨some 30, Go.Op.call ⟨Go.Callee.value (Go.Operand.func 21), #[Go.Operand.tmp 29, Go.Operand.const (Go.Value.int Go.IntKind.i64 0)], #[24, 3]⟩, 3, "outright.go:50", #[⟨3, Go.Ground.data⟩], none⟩) rfl (by decide) (fun K hK => ?_) ?_
  focus
    rw [if_pos (by rfl)]
    go_simp
    (go_at_call 21; (with_reducible refine (HNow0.out _ hHeld.2.2).mono ?_); rintro e5 W5 ⟨rfl, rfl⟩)
    refine hK.out _ _ (hHeld) (fun hHeld => ?_)
    clear hK K
    try simp only [Act.put, List.setIfInBounds_toArray, List.set_cons_zero, List.set_cons_succ]
    refine wpAnyLast_ready (rs := [12, 17]) (by kernel_rfl) (by simp) ?_
    refine AllReadyL.cons (o := ⟨some 38, Go.Op.call ⟨Go.Callee.value (Go.Operand.func 34), #[Go.Operand.tmp 27, Go.Operand.tmp 30, Go.Operand.tmp 33, Go.Operand.tmp 35, Go.Operand.tmp 37], #[57, 3, 3, 3, 3]⟩, 63, "outright.go:50", #[⟨1, Go.Ground.data⟩, ⟨4, Go.Ground.data⟩, ⟨7, Go.Ground.data⟩, ⟨9, Go.Ground.data⟩, ⟨11, Go.Ground.data⟩, ⟨4, Go.Ground.chain⟩], none⟩) rfl (by decide) (fun K hK => ?_) ?_
    focus
      rw [if_pos (by rfl)]
      go_simp
      (go_at_call 34; (with_reducible refine (HGr.out _ hHeld.2.2).mono ?_); rintro e6 W9 ⟨m1, rfl, hm1, hX6, hV6⟩; have HM1 := Lib.hid hm1; clear hm1; (try have HZ := Lib.hid (HZ.out.o hV6)))
      refine hK.out _ _ (⟨hHeld.1.o hV6, hHeld.2.1.o hV6, hX6⟩) (fun hHeld => ?_)
      clear hK K
      try simp only [Act.put, List.setIfInBounds_toArray, List.set_cons_zero, List.set_cons_succ]
      refine pure_ (i := 13) (N := some 25) (v := ?_) (a' := ?_) #[true, true, true, true, true, true, true, true, true, true, true, true, true, true, false, false, false, false, false, false, false] rfl rfl (by kernel_rfl) (fun _ _ _ h => h) (Or.inl ⟨by rfl, ?_⟩) ?_ ?_
      rotate_left
      · intro w'
        go_simp
        (try with_reducible rfl)
      rotate_left
      · simp only [Act.put, List.setIfInBounds_toArray, List.set_cons_zero, List.set_cons_succ]
        rfl
      refine pure_ (i := 14) (N := some 39) (v := ?_) (a' := ?_) #[true, true, true, true, true, true, true, true, true, true, true, true, true, true, true, false, false, false, false, false, false] rfl rfl (by kernel_rfl) (fun _ _ _ h => h) (Or.inl ⟨by rfl, ?_⟩) ?_ ?_
      rotate_left
      · intro w'
        go_simp
        (try with_reducible rfl)
      rotate_left
      · simp only [Act.put, List.setIfInBounds_toArray, List.set_cons_zero, List.set_cons_succ]
        rfl
      refine pure_ (i := 15) (N := some 40) (v := ?_) (a' := ?_) #[true, true, true, true, true, true, true, true, true, true, true, true, true, true, true, true, false, false, false, false, false] rfl rfl (by kernel_rfl) (fun _ _ _ h => h) (Or.inl ⟨by rfl, ?_⟩) ?_ ?_
      rotate_left
      · intro w'
        go_simp
        (try with_reducible rfl)
      rotate_left
      · simp only [Act.put, List.setIfInBounds_toArray, List.set_cons_zero, List.set_cons_succ]
        rfl
      refine pure_ (i := 16) (N := some 41) (v := ?_) (a' := ?_) #[true, true, true, true, true, true, true, true, true, true, true, true, true, true, true, true, true, false, false, false, false] rfl rfl (by kernel_rfl) (fun _ _ _ h => h) (Or.inl ⟨by rfl, ?_⟩) ?_ ?_
      rotate_left
      · intro w'
        go_simp
        (try with_reducible rfl)
      rotate_left
      · simp only [Act.put, List.setIfInBounds_toArray, List.set_cons_zero, List.set_cons_succ]
        rfl
      refine one_ (i := 17) (N := some 6) (oi := ⟨some 6, Go.Op.alloc 57, 0, "outright.go:50", #[], none⟩) #[true, true, true, true, true, true, true, true, true, true, true, true, true, true, true, true, true, true, false, false, false] rfl rfl (by kernel_rfl) (by decide) (fun K hK => ?_)
      refine step_alloc (by rfl) rfl (cs := #[.int .i64 0, .int .i64 0, .map none]) (t := 57) ?hr ?_
      (case hr => first | (go_simp; done) | (go_simp; rfl))
      intro h hh W7 hbox hO
      have HZ := Lib.hid hbox
      have hne : g ≠ h := (by rw [hh]; exact Nat.ne_of_lt hHeld.1.lt)
      have hneq : q ≠ h := (by rw [hh]; exact Nat.ne_of_lt hHeld.2.1.lt)
      have hge : W3.heap.size ≤ h := (by rw [hh]; exact hHeld.2.2.size)
      (try have HM1 := Lib.hid (mapIs_out HM1.out hO))
      clear hh hbox
      refine hK.out _ _ (⟨hHeld.1.o hO, hHeld.2.1.o hO, hHeld.2.2.thens hO⟩) (fun hHeld => ?_)
      clear hK K
      try simp only [Act.put, List.setIfInBounds_toArray, List.set_cons_zero, List.set_cons_succ]
      refine last_ (i := 18) (N := none) (oi := ⟨none, Go.Op.store 57 (Go.Operand.tmp 6) (Go.Operand.tmp 39), 0, "outright.go:50", #[⟨17, Go.Ground.data⟩, ⟨14, Go.Ground.data⟩, ⟨12, Go.Ground.chain⟩, ⟨0, Go.Ground.phase⟩, ⟨1, Go.Ground.phase⟩, ⟨2, Go.Ground.phase⟩, ⟨3, Go.Ground.phase⟩, ⟨4, Go.Ground.phase⟩, ⟨5, Go.Ground.phase⟩, ⟨6, Go.Ground.phase⟩, ⟨7, Go.Ground.phase⟩, ⟨8, Go.Ground.phase⟩, ⟨9, Go.Ground.phase⟩, ⟨10, Go.Ground.phase⟩, ⟨11, Go.Ground.phase⟩, ⟨12, Go.Ground.phase⟩, ⟨13, Go.Ground.phase⟩, ⟨14, Go.Ground.phase⟩, { on := 15, ground := Go.Ground.textOnly Go.Departure.lateStores }, { on := 16, ground := Go.Ground.textOnly Go.Departure.lateStores }, ⟨17, Go.Ground.phase⟩], none⟩) #[true, true, true, true, true, true, true, true, true, true, true, true, true, true, true, true, true, true, true, false, false] rfl rfl (by kernel_rfl) (by decide) (fun K hK => ?_)
      refine step_store_part _ (by rfl) rfl (.tmp 6) (.tmp 39) 57 rfl h 0 ((sC (grantL x.s (x.c.N 0) term mm.place (mm.holder : Int)).1 m1)) rfl rfl size57 rfl 57 _ HZ.out (Nat.le_refl _) ((sC (grantL x.s (x.c.N 0) term mm.place (mm.holder : Int)).1 m1)) rfl ?_
      intro w7 hb7 hfr
      have HY7 := Lib.hid hb7
      have HQ7 := Lib.hid (hHeld.2.1.away hfr hneq)
      have HE7 := Lib.hid ((HE.out.o hHeld.2.2).away HZ.out (by decide) (Nat.le_trans HS3.out hge) hne hfr)
      have HR7 := Lib.hid ((HR.out.o hHeld.2.2).away hfr (Nat.ne_of_lt (Nat.lt_of_lt_of_le HR.out.lt hge)))
      have HM1 := Lib.hid (mapIs_far HM1.out HZ.out hfr)
      have q1 : w7.cell? ⟨q, 1, none⟩ = some (.int .i64 (mm.holder : Int)) := HQ7.out.cell 1
      clear hb7 hfr hHeld
      refine hK.out _ _ ?_
      clear hK K
      try simp only [Act.put, List.setIfInBounds_toArray, List.set_cons_zero, List.set_cons_succ]
      refine pure_ (i := 19) (N := some 7) (v := ?_) (a' := ?_) #[true, true, true, true, true, true, true, true, true, true, true, true, true, true, true, true, true, true, true, true, false] rfl rfl (by kernel_rfl) (fun _ _ _ h => h) (Or.inl ⟨by rfl, ?_⟩) ?_ ?_
      rotate_left
      · intro w'
        go_simp
        (try with_reducible rfl)
      rotate_left
      · simp only [Act.put, List.setIfInBounds_toArray, List.set_cons_zero, List.set_cons_succ]
        rfl
      refine pure_ (i := 20) (N := some 8) (v := ?_) (a' := ?_) #[true, true, true, true, true, true, true, true, true, true, true, true, true, true, true, true, true, true, true, true, true] rfl rfl (by kernel_rfl) (fun _ _ _ h => h) (Or.inl ⟨by rfl, ?_⟩) ?_ ?_
      rotate_left
      · intro w'
        go_simp
        (try with_reducible rfl)
      rotate_left
      · simp only [Act.put, List.setIfInBounds_toArray, List.set_cons_zero, List.set_cons_succ]
        rfl
      refine done_ (by kernel_rfl) ?_
    rotate_left 1
    refine AllReadyL.cons (o := ⟨some 6, Go.Op.alloc 57, 0, "outright.go:50", #[], none⟩) rfl (by decide) (fun K hK => ?_) ?_
    focus
      refine step_alloc (by rfl) rfl (cs := #[.int .i64 0, .int .i64 0, .map none]) (t := 57) ?hr ?_
      (case hr => first | (go_simp; done) | (go_simp; rfl))
      intro h hh W7 hbox hO
      have HZ := Lib.hid hbox
      have hne : g ≠ h := (by rw [hh]; exact Nat.ne_of_lt hHeld.1.lt)
      have hneq : q ≠ h := (by rw [hh]; exact Nat.ne_of_lt hHeld.2.1.lt)
      have hge : W3.heap.size ≤ h := (by rw [hh]; exact hHeld.2.2.size)
      (try have HM1 := Lib.hid (mapIs_out HM1.out hO))
      clear hh hbox
      refine hK.out _ _ (⟨hHeld.1.o hO, hHeld.2.1.o hO, hHeld.2.2.thens hO⟩) (fun hHeld => ?_)
      clear hK K
      try simp only [Act.put, List.setIfInBounds_toArray, List.set_cons_zero, List.set_cons_succ]
      refine one_ (i := 12) (N := some 38) (oi := ⟨some 38, Go.Op.call ⟨Go.Callee.value (Go.Operand.func 34), #[Go.Operand.tmp 27, Go.Operand.tmp 30, Go.Operand.tmp 33, Go.Operand.tmp 35, Go.Operand.tmp 37], #[57, 3, 3, 3, 3]⟩, 63, "outright.go:50", #[⟨1, Go.Ground.data⟩, ⟨4, Go.Ground.data⟩, ⟨7, Go.Ground.data⟩, ⟨9, Go.Ground.data⟩, ⟨11, Go.Ground.data⟩, ⟨4, Go.Ground.chain⟩], none⟩) #[true, true, true, true, true, true, true, true, true, true, true, true, true, false, false, false, false, true, false, false, false] rfl rfl (by kernel_rfl) (by decide) (fun K hK => ?_)
      rw [if_pos (by rfl)]
      go_simp
      (go_at_call 34; (with_reducible refine (HGr.out _ hHeld.2.2).mono ?_); rintro e6 W9 ⟨m1, rfl, hm1, hX6, hV6⟩; have HM1 := Lib.hid hm1; clear hm1; (try have HZ := Lib.hid (HZ.out.o hV6)))
      refine hK.out _ _ (⟨hHeld.1.o hV6, hHeld.2.1.o hV6, hX6⟩) (fun hHeld => ?_)
      clear hK K
      try simp only [Act.put, List.setIfInBounds_toArray, List.set_cons_zero, List.set_cons_succ]
      refine pure_ (i := 13) (N := some 25) (v := ?_) (a' := ?_) #[true, true, true, true, true, true, true, true, true, true, true, true, true, true, false, false, false, true, false, false, false] rfl rfl (by kernel_rfl) (fun _ _ _ h => h) (Or.inl ⟨by rfl, ?_⟩) ?_ ?_
      rotate_left
      · intro w'
        go_simp
        (try with_reducible rfl)
      rotate_left
      · simp only [Act.put, List.setIfInBounds_toArray, List.set_cons_zero, List.set_cons_succ]
        rfl
      refine pure_ (i := 14) (N := some 39) (v := ?_) (a' := ?_) #[true, true, true, true, true, true, true, true, true, true, true, true, true, true, true, false, false, true, false, false, false] rfl rfl (by kernel_rfl) (fun _ _ _ h => h) (Or.inl ⟨by rfl, ?_⟩) ?_ ?_
      rotate_left
      · intro w'
        go_simp
        (try with_reducible rfl)
      rotate_left
      · simp only [Act.put, List.setIfInBounds_toArray, List.set_cons_zero, List.set_cons_succ]
        rfl
      refine pure_ (i := 15) (N := some 40) (v := ?_) (a' := ?_) #[true, true, true, true, true, true, true, true, true, true, true, true, true, true, true, true, false, true, false, false, false] rfl rfl (by kernel_rfl) (fun _ _ _ h => h) (Or.inl ⟨by rfl, ?_⟩) ?_ ?_
      rotate_left
      · intro w'
        go_simp
        (try with_reducible rfl)
      rotate_left
      · simp only [Act.put, List.setIfInBounds_toArray, List.set_cons_zero, List.set_cons_succ]
        rfl
      refine pure_ (i := 16) (N := some 41) (v := ?_) (a' := ?_) #[true, true, true, true, true, true, true, true, true, true, true, true, true, true, true, true, true, true, false, false, false] rfl rfl (by kernel_rfl) (fun _ _ _ h => h) (Or.inl ⟨by rfl, ?_⟩) ?_ ?_
      rotate_left
      · intro w'
        go_simp
        (try with_reducible rfl)
      rotate_left
      · simp only [Act.put, List.setIfInBounds_toArray, List.set_cons_zero, List.set_cons_succ]
        rfl
      refine last_ (i := 18) (N := none) (oi := ⟨none, Go.Op.store 57 (Go.Operand.tmp 6) (Go.Operand.tmp 39), 0, "outright.go:50", #[⟨17, Go.Ground.data⟩, ⟨14, Go.Ground.data⟩, ⟨12, Go.Ground.chain⟩, ⟨0, Go.Ground.phase⟩, ⟨1, Go.Ground.phase⟩, ⟨2, Go.Ground.phase⟩, ⟨3, Go.Ground.phase⟩, ⟨4, Go.Ground.phase⟩, ⟨5, Go.Ground.phase⟩, ⟨6, Go.Ground.phase⟩, ⟨7, Go.Ground.phase⟩, ⟨8, Go.Ground.phase⟩, ⟨9, Go.Ground.phase⟩, ⟨10, Go.Ground.phase⟩, ⟨11, Go.Ground.phase⟩, ⟨12, Go.Ground.phase⟩, ⟨13, Go.Ground.phase⟩, ⟨14, Go.Ground.phase⟩, { on := 15, ground := Go.Ground.textOnly Go.Departure.lateStores }, { on := 16, ground := Go.Ground.textOnly Go.Departure.lateStores }, ⟨17, Go.Ground.phase⟩], none⟩) #[true, true, true, true, true, true, true, true, true, true, true, true, true, true, true, true, true, true, true, false, false] rfl rfl (by kernel_rfl) (by decide) (fun K hK => ?_)
      refine step_store_part _ (by rfl) rfl (.tmp 6) (.tmp 39) 57 rfl h 0 ((sC (grantL x.s (x.c.N 0) term mm.place (mm.holder : Int)).1 m1)) rfl rfl size57 rfl 57 _ HZ.out (Nat.le_refl _) ((sC (grantL x.s (x.c.N 0) term mm.place (mm.holder : Int)).1 m1)) rfl ?_
      intro w7 hb7 hfr
      have HY7 := Lib.hid hb7
      have HQ7 := Lib.hid (hHeld.2.1.away hfr hneq)
      have HE7 := Lib.hid ((HE.out.o hHeld.2.2).away HZ.out (by decide) (Nat.le_trans HS3.out hge) hne hfr)
      have HR7 := Lib.hid ((HR.out.o hHeld.2.2).away hfr (Nat.ne_of_lt (Nat.lt_of_lt_of_le HR.out.lt hge)))
      have HM1 := Lib.hid (mapIs_far HM1.out HZ.out hfr)
      have q1 : w7.cell? ⟨q, 1, none⟩ = some (.int .i64 (mm.holder : Int)) := HQ7.out.cell 1
      clear hb7 hfr hHeld
      refine hK.out _ _ ?_
      clear hK K
      try simp only [Act.put, List.setIfInBounds_toArray, List.set_cons_zero, List.set_cons_succ]
      refine pure_ (i := 19) (N := some 7) (v := ?_) (a' := ?_) #[true, true, true, true, true, true, true, true, true, true, true, true, true, true, true, true, true, true, true, true, false] rfl rfl (by kernel_rfl) (fun _ _ _ h => h) (Or.inl ⟨by rfl, ?_⟩) ?_ ?_
      rotate_left
      · intro w'
        go_simp
        (try with_reducible rfl)
      rotate_left
      · simp only [Act.put, List.setIfInBounds_toArray, List.set_cons_zero, List.set_cons_succ]
        rfl
      refine pure_ (i := 20) (N := some 8) (v := ?_) (a' := ?_) #[true, true, true, true, true, true, true, true, true, true, true, true, true, true, true, true, true, true, true, true, true] rfl rfl (by kernel_rfl) (fun _ _ _ h => h) (Or.inl ⟨by rfl, ?_⟩) ?_ ?_
      rotate_left
      · intro w'
        go_simp
        (try with_reducible rfl)
      rotate_left
      · simp only [Act.put, List.setIfInBounds_toArray, List.set_cons_zero, List.set_cons_succ]
        rfl
      refine done_ (by kernel_rfl) ?_
    rotate_left 1
    exact AllReadyL.nil
  rotate_left 2
  refine AllReadyL.cons (o := ⟨some 6, Go.Op.alloc 57, 0, "outright.go:50", #[], none⟩) rfl (by decide) (fun K hK => ?_) ?_
  focus
    refine step_alloc (by rfl) rfl (cs := #[.int .i64 0, .int .i64 0, .map none]) (t := 57) ?hr ?_
    (case hr => first | (go_simp; done) | (go_simp; rfl))
    intro h hh W7 hbox hO
    have HZ := Lib.hid hbox
    have hne : g ≠ h := (by rw [hh]; exact Nat.ne_of_lt hHeld.1.lt)
    have hneq : q ≠ h := (by rw [hh]; exact Nat.ne_of_lt hHeld.2.1.lt)
    have hge : W3.heap.size ≤ h := (by rw [hh]; exact hHeld.2.2.size)
    (try have HM1 := Lib.hid (mapIs_out HM1.out hO))
    clear hh hbox
    refine hK.out _ _ (⟨hHeld.1.o hO, hHeld.2.1.o hO, hHeld.2.2.thens hO⟩) (fun hHeld => ?_)
    clear hK K
    try simp only [Act.put, List.setIfInBounds_toArray, List.set_cons_zero, List.set_cons_succ]
    refine one_ (i := 4) (N := some 30) (oi := ⟨some 30, Go.Op.call ⟨Go.Callee.value (Go.Operand.func 21), #[Go.Operand.tmp 29, Go.Operand.const (Go.Value.int Go.IntKind.i64 0)], #[24, 3]⟩, 3, "outright.go:50", #[⟨3, Go.Ground.data⟩], none⟩) #[true, true, true, true, true, true, true, true, true, true, true, true, false, false, false, false, false, true, false, false, false] rfl rfl (by kernel_rfl) (by decide) (fun K hK => ?_)
    rw [if_pos (by rfl)]
    go_simp
    (go_at_call 21; (with_reducible refine (HNow0.out _ hHeld.2.2).mono ?_); rintro e5 W5 ⟨rfl, rfl⟩)
    refine hK.out _ _ (hHeld) (fun hHeld => ?_)
    clear hK K
    try simp only [Act.put, List.setIfInBounds_toArray, List.set_cons_zero, List.set_cons_succ]
    refine one_ (i := 12) (N := some 38) (oi := ⟨some 38, Go.Op.call ⟨Go.Callee.value (Go.Operand.func 34), #[Go.Operand.tmp 27, Go.Operand.tmp 30, Go.Operand.tmp 33, Go.Operand.tmp 35, Go.Operand.tmp 37], #[57, 3, 3, 3, 3]⟩, 63, "outright.go:50", #[⟨1, Go.Ground.data⟩, ⟨4, Go.Ground.data⟩, ⟨7, Go.Ground.data⟩, ⟨9, Go.Ground.data⟩, ⟨11, Go.Ground.data⟩, ⟨4, Go.Ground.chain⟩], none⟩) #[true, true, true, true, true, true, true, true, true, true, true, true, true, false, false, false, false, true, false, false, false] rfl rfl (by kernel_rfl) (by decide) (fun K hK => ?_)
    rw [if_pos (by rfl)]
    go_simp
    (go_at_call 34; (with_reducible refine (HGr.out _ hHeld.2.2).mono ?_); rintro e6 W9 ⟨m1, rfl, hm1, hX6, hV6⟩; have HM1 := Lib.hid hm1; clear hm1; (try have HZ := Lib.hid (HZ.out.o hV6)))
    refine hK.out _ _ (⟨hHeld.1.o hV6, hHeld.2.1.o hV6, hX6⟩) (fun hHeld => ?_)
    clear hK K
    try simp only [Act.put, List.setIfInBounds_toArray, List.set_cons_zero, List.set_cons_succ]
    refine pure_ (i := 13) (N := some 25) (v := ?_) (a' := ?_) #[true, true, true, true, true, true, true, true, true, true, true, true, true, true, false, false, false, true, false, false, false] rfl rfl (by kernel_rfl) (fun _ _ _ h => h) (Or.inl ⟨by rfl, ?_⟩) ?_ ?_
    rotate_left
    · intro w'
      go_simp
      (try with_reducible rfl)
    rotate_left
    · simp only [Act.put, List.setIfInBounds_toArray, List.set_cons_zero, List.set_cons_succ]
      rfl
    refine pure_ (i := 14) (N := some 39) (v := ?_) (a' := ?_) #[true, true, true, true, true, true, true, true, true, true, true, true, true, true, true, false, false, true, false, false, false] rfl rfl (by kernel_rfl) (fun _ _ _ h => h) (Or.inl ⟨by rfl, ?_⟩) ?_ ?_
    rotate_left
    · intro w'
      go_simp
      (try with_reducible rfl)
    rotate_left
    · simp only [Act.put, List.setIfInBounds_toArray, List.set_cons_zero, List.set_cons_succ]
      rfl
    refine pure_ (i := 15) (N := some 40) (v := ?_) (a' := ?_) #[true, true, true, true, true, true, true, true, true, true, true, true, true, true, true, true, false, true, false, false, false] rfl rfl (by kernel_rfl) (fun _ _ _ h => h) (Or.inl ⟨by rfl, ?_⟩) ?_ ?_
    rotate_left
    · intro w'
      go_simp
      (try with_reducible rfl)
    rotate_left
    · simp only [Act.put, List.setIfInBounds_toArray, List.set_cons_zero, List.set_cons_succ]
      rfl
    refine pure_ (i := 16) (N := some 41) (v := ?_) (a' := ?_) #[true, true, true, true, true, true, true, true, true, true, true, true, true, true, true, true, true, true, false, false, false] rfl rfl (by kernel_rfl) (fun _ _ _ h => h) (Or.inl ⟨by rfl, ?_⟩) ?_ ?_
    rotate_left
    · intro w'
      go_simp
      (try with_reducible rfl)
    rotate_left
    · simp only [Act.put, List.setIfInBounds_toArray, List.set_cons_zero, List.set_cons_succ]
      rfl
    refine last_ (i := 18) (N := none) (oi := ⟨none, Go.Op.store 57 (Go.Operand.tmp 6) (Go.Operand.tmp 39), 0, "outright.go:50", #[⟨17, Go.Ground.data⟩, ⟨14, Go.Ground.data⟩, ⟨12, Go.Ground.chain⟩, ⟨0, Go.Ground.phase⟩, ⟨1, Go.Ground.phase⟩, ⟨2, Go.Ground.phase⟩, ⟨3, Go.Ground.phase⟩, ⟨4, Go.Ground.phase⟩, ⟨5, Go.Ground.phase⟩, ⟨6, Go.Ground.phase⟩, ⟨7, Go.Ground.phase⟩, ⟨8, Go.Ground.phase⟩, ⟨9, Go.Ground.phase⟩, ⟨10, Go.Ground.phase⟩, ⟨11, Go.Ground.phase⟩, ⟨12, Go.Ground.phase⟩, ⟨13, Go.Ground.phase⟩, ⟨14, Go.Ground.phase⟩, { on := 15, ground := Go.Ground.textOnly Go.Departure.lateStores }, { on := 16, ground := Go.Ground.textOnly Go.Departure.lateStores }, ⟨17, Go.Ground.phase⟩], none⟩) #[true, true, true, true, true, true, true, true, true, true, true, true, true, true, true, true, true, true, true, false, false] rfl rfl (by kernel_rfl) (by decide) (fun K hK => ?_)
    refine step_store_part _ (by rfl) rfl (.tmp 6) (.tmp 39) 57 rfl h 0 ((sC (grantL x.s (x.c.N 0) term mm.place (mm.holder : Int)).1 m1)) rfl rfl size57 rfl 57 _ HZ.out (Nat.le_refl _) ((sC (grantL x.s (x.c.N 0) term mm.place (mm.holder : Int)).1 m1)) rfl ?_
    intro w7 hb7 hfr
    have HY7 := Lib.hid hb7
    have HQ7 := Lib.hid (hHeld.2.1.away hfr hneq)
    have HE7 := Lib.hid ((HE.out.o hHeld.2.2).away HZ.out (by decide) (Nat.le_trans HS3.out hge) hne hfr)
    have HR7 := Lib.hid ((HR.out.o hHeld.2.2).away hfr (Nat.ne_of_lt (Nat.lt_of_lt_of_le HR.out.lt hge)))
    have HM1 := Lib.hid (mapIs_far HM1.out HZ.out hfr)
    have q1 : w7.cell? ⟨q, 1, none⟩ = some (.int .i64 (mm.holder : Int)) := HQ7.out.cell 1
    clear hb7 hfr hHeld
    refine hK.out _ _ ?_
    clear hK K
    try simp only [Act.put, List.setIfInBounds_toArray, List.set_cons_zero, List.set_cons_succ]
    refine pure_ (i := 19) (N := some 7) (v := ?_) (a' := ?_) #[true, true, true, true, true, true, true, true, true, true, true, true, true, true, true, true, true, true, true, true, false] rfl rfl (by kernel_rfl) (fun _ _ _ h => h) (Or.inl ⟨by rfl, ?_⟩) ?_ ?_
    rotate_left
    · intro w'
      go_simp
      (try with_reducible rfl)
    rotate_left
    · simp only [Act.put, List.setIfInBounds_toArray, List.set_cons_zero, List.set_cons_succ]
      rfl
    refine pure_ (i := 20) (N := some 8) (v := ?_) (a' := ?_) #[true, true, true, true, true, true, true, true, true, true, true, true, true, true, true, true, true, true, true, true, true] rfl rfl (by kernel_rfl) (fun _ _ _ h => h) (Or.inl ⟨by rfl, ?_⟩) ?_ ?_
    rotate_left
    · intro w'
      go_simp
      (try with_reducible rfl)
    rotate_left
    · simp only [Act.put, List.setIfInBounds_toArray, List.set_cons_zero, List.set_cons_succ]
      rfl
    refine done_ (by kernel_rfl) ?_
  rotate_left 1
  exact AllReadyL.nil
  all_goals
    go_wp2_with (first
        | ((with_reducible refine gate_dst (N := 42) rfl ?_); refine wpList_load_part _ rfl (.tmp 6) 57 rfl h 0 (sC (grantL x.s (x.c.N 0) term mm.place (mm.holder : Int)).1 m1) rfl agg57 size57 57 _ HY7.out (fun j u hj => (by rw [Nat.zero_add]; simpa using hj)) ?_)
        | (refine wpList_store_part _ rfl (.tmp 43) (.tmp 42) 57 rfl g 1 (sC (grantL x.s (x.c.N 0) term mm.place (mm.holder : Int)).1 m1) rfl rfl size57 rfl 109 _ HE7.out.blk (by show 4 ≤ 24; omega) (WC { x with s := (grantL x.s (x.c.N 0) term mm.place (mm.holder : Int)).1 } p m1 a b (.slice Aw x.way.length cw) term margin) (WC_setS (grantL x.s (x.c.N 0) term mm.place (mm.holder : Int)).1 m1) ?_; intro w8 hb8 hfr8; have HR8 := Lib.hid (HR7.out.away hfr8 hgr.symm); have HQ8 := Lib.hid (HQ7.out.away hfr8 hgq.symm); have HE8 := Lib.hid (HE7.out.withS HM1.out hb8 hfr8); have r1 : w8.cell? ⟨q, 1, none⟩ = some (.int .i64 (mm.holder : Int)) := HQ8.out.cell 1; have r2 : w8.cell? ⟨q, 2, none⟩ = some (.int .i64 mm.place) := HQ8.out.cell 2; have r3 : w8.cell? ⟨q, 3, none⟩ = some (.int .i64 mm.num) := HQ8.out.cell 3; clear hb8 hfr8 q1)
        | ((with_reducible refine gate_dst (N := 9) rfl ?_); refine box_event rfl (N := 9) rfl (cs := wC ⟨0, 0, 0, 0, 0⟩) (t := 141) ?hr ?_; (case hr => first | (go_simp; done) | (go_simp; rfl)); intro k hk W10 hbox hb; have HK10 := Lib.hid (show Blk W10 k 141 _ from hbox); have hkw : w8.heap.size ≤ k := (by rw [hk]; exact Nat.le_refl _); have hO10 := Lib.hid (Out.of hb); clear hk hbox hb)
        | ((refine wpList_store_part _ rfl (.tmp 9) (.tmp 51) 141 rfl k 0 (wC ⟨2, mm.holder, mm.place, mm.num, ne⟩) rfl rfl size141 rfl 141 _ HK10.out (Nat.le_refl _) (wC ⟨2, mm.holder, mm.place, mm.num, ne⟩) rfl ?_); intro w11 hb11 hfr11; have HK11 := Lib.hid hb11; have hO11 := Lib.hid (Out.far hO10.out hfr11 hkw); clear hb11 hfr11)
        | fail
        | fail)
    have HEV := Lib.hid (HE8.out.o hO11.out)
    have HRV := Lib.hid (HR8.out.o hO11.out)
    have HKV : Hid (Blk w11 k 141 (wC ans)) := Lib.hid (by rw [HAns.out]; exact HK11.out)
    obtain ⟨V0, hV0⟩ : ∃ V0, V0 = w11 := ⟨_, rfl⟩
    rw [← hV0] at HEV HRV HKV ⊢
    clear hV0
    refine start_ (n := 9) (S := fun W' => Blk W' g 109 (WC { x with s := (grantL x.s (x.c.N 0) term mm.place (mm.holder : Int)).1 } p m1 a b (.slice Aw x.way.length cw) term margin) ∧ Blk W' k 141 (wC ans) ∧ Out V0 W') (ds := [8]) #[false, false, false, false, false, false, false, false, false] (by kernel_rfl) rfl rfl (⟨HEV.out.blk.drew, HKV.out.drew, (Only.refl _ _ _).drew⟩) (fun hHeld => ?_)
    refine pure_ (i := 1) (N := some 56) (v := ?_) (a' := ?_) #[false, true, false, false, false, false, false, false, false] rfl rfl (by kernel_rfl) (fun _ _ _ h => h) (Or.inl ⟨by rfl, ?_⟩) ?_ ?_
    rotate_left
    · intro w'
      go_simp
      (try with_reducible rfl)
    rotate_left
    · simp only [Act.put, List.setIfInBounds_toArray, List.set_cons_zero, List.set_cons_succ]
      rfl
    refine take_ (i := 2) (N := some 57) (v := ?_) (a' := ?_) #[false, true, true, false, false, false, false, false, false] rfl rfl (by kernel_rfl) (fun _ _ _ h => h) (Or.inl ⟨by rfl, ?_⟩) hHeld ?_ ?_
    rotate_left
    · intro w' s0
      obtain ⟨t1, t2, t3⟩ := s0
      have c0 : w'.cell? ⟨g, 20, none⟩ = some (.slice Aw x.way.length cw) := t1.cell 20
      go_simp
      (try with_reducible rfl)
    rotate_left
    · simp only [Act.put, List.setIfInBounds_toArray, List.set_cons_zero, List.set_cons_succ]
      rfl
    refine take_ (i := 4) (N := some 59) (v := ?_) (a' := ?_) #[false, true, true, false, true, false, false, false, false] rfl rfl (by kernel_rfl) (fun _ _ _ h => h) (Or.inl ⟨by rfl, ?_⟩) hHeld ?_ ?_
    rotate_left
    · intro w' s0
      obtain ⟨t1, t2, t3⟩ := s0
      refine exec_load_part _ (.tmp 9) 141 ?_ k 0 (wC ans) ?_ agg141 size141 141 _ t2 ?_
      · rfl
      · (first | rfl | (simp [Act.eval]))
      · exact (fun j u hj => (by rw [Nat.zero_add]; simpa using hj))
    rotate_left
    · simp only [Act.put, List.setIfInBounds_toArray, List.set_cons_zero, List.set_cons_succ]
      rfl
    refine wpAnyLast_ready (rs := [0, 5]) (by kernel_rfl) (by simp) ?_
    refine AllReadyL.cons (o := ⟨some 55, Go.Op.buildSlice 107 0 #[], 107, "outright.go:56", #[], none⟩) rfl (by decide) (fun K hK => ?_) ?_
    focus
      refine step_lit0 (by rfl) rfl ?_
      intro g0 hg0 W7 hR0 hO
      have H0 := Lib.hid (Kd.R_lower hR0 hHeld.2.2.size)
      (try have hne05 := (show g5 ≠ g0 by rw [hg0]; exact Nat.ne_of_lt (KW_lt H5.out _ rfl)))
      (try have H5 := Lib.hid (KW_below H5.out hO))
      clear hR0 hg0
      refine hK.out _ _ (⟨hHeld.1.o hO, hHeld.2.1.o hO, hHeld.2.2.thens hO⟩) (fun hHeld => ?_)
      clear hK K
      try simp only [Act.put, List.setIfInBounds_toArray, List.set_cons_zero, List.set_cons_succ]
      refine wpAnyLast_ready (rs := [3, 5]) (by kernel_rfl) (by simp) ?_
      refine AllReadyL.cons (o := ⟨some 58, Go.Op.call ⟨Go.Callee.builtin Go.Builtin.append, #[Go.Operand.tmp 55, Go.Operand.tmp 57], #[107, 107]⟩, 107, "outright.go:56", #[⟨0, Go.Ground.data⟩, ⟨2, Go.Ground.data⟩], none⟩) rfl (by decide) (fun K hK => ?_) ?_
      focus
        refine step_app (V0 := V0) (by rfl) (.tmp 55) (.tmp 57) rfl _ [] x.way x.way rfl Aw x.way.length cw rfl rfl H0.out (KW_C (KW_below HEV.out.wd.way hHeld.2.2)).2.2 hHeld.2.2 (by have := HWl.out; simp; omega) ?_
        intro A1 c1 w1 hR1 hO1 hg1
        have H3 := Lib.hid hR1
        (try have H5 := Lib.hid (KW_keep H5.out hg1 (fun k hk hk2 => hne05 (Option.some.inj (hk.trans hk2.symm)))))
        clear hR1 hg1
        refine hK.out _ _ (⟨HEV.out.blk.o hO1, HKV.out.o hO1, hO1⟩) (fun hHeld => ?_)
        clear hK K
        try simp only [Act.put, List.setIfInBounds_toArray, List.set_cons_zero, List.set_cons_succ]
        refine one_ (i := 5) (N := some 60) (oi := ⟨some 60, Go.Op.buildSlice 107 1 #[(0, Go.Operand.tmp 59)], 107, "outright.go:56", #[⟨4, Go.Ground.data⟩], none⟩) #[true, true, true, true, true, true, false, false, false] rfl rfl (by kernel_rfl) (by decide) (fun K hK => ?_)
        refine step_lit1 (by rfl) (.tmp 59) ans rfl rfl ?_
        intro g5 hg5 W7 hR5 hO
        have H5 := Lib.hid (Kd.R_lower hR5 hHeld.2.2.size)
        (try have hne05 := (show g5 ≠ g0 by rw [hg5]; exact Nat.ne_of_gt (KW_lt H0.out _ rfl)))
        (try have H0 := Lib.hid (KW_below H0.out hO))
        (try have H3 := Lib.hid (KW_below H3.out hO))
        clear hR5 hg5
        refine hK.out _ _ (⟨hHeld.1.o hO, hHeld.2.1.o hO, hHeld.2.2.thens hO⟩) (fun hHeld => ?_)
        clear hK K
        try simp only [Act.put, List.setIfInBounds_toArray, List.set_cons_zero, List.set_cons_succ]
        refine one_ (i := 6) (N := some 61) (oi := ⟨some 61, Go.Op.call ⟨Go.Callee.builtin Go.Builtin.append, #[Go.Operand.tmp 58, Go.Operand.tmp 60], #[107, 107]⟩, 107, "outright.go:56", #[⟨3, Go.Ground.data⟩, ⟨5, Go.Ground.data⟩, ⟨3, Go.Ground.chain⟩], none⟩) #[true, true, true, true, true, true, true, false, false] rfl rfl (by kernel_rfl) (by decide) (fun K hK => ?_)
        refine step_app (V0 := V0) (by rfl) (.tmp 58) (.tmp 60) rfl _ x.way [ans] (x.way ++ [ans]) rfl (some ⟨g5, 0, none⟩) 1 1 rfl rfl H3.out (KW_C H5.out).2.2 hHeld.2.2 (by have := HWl.out; omega) ?_
        intro A2 c2 w2 hR2 hO2 hg2
        have H6 := Lib.hid hR2
        clear hR2 hg2
        refine hK.out _ _ (⟨HEV.out.blk.o hO2, HKV.out.o hO2, hO2⟩) (fun hHeld => ?_)
        clear hK K
        try simp only [Act.put, List.setIfInBounds_toArray, List.set_cons_zero, List.set_cons_succ]
        refine pure_ (i := 7) (N := some 62) (v := ?_) (a' := ?_) #[true, true, true, true, true, true, true, true, false] rfl rfl (by kernel_rfl) (fun _ _ _ h => h) (Or.inl ⟨by rfl, ?_⟩) ?_ ?_
        rotate_left
        · intro w'
          go_simp
          (try with_reducible rfl)
        rotate_left
        · simp only [Act.put, List.setIfInBounds_toArray, List.set_cons_zero, List.set_cons_succ]
          rfl
        refine last_ (i := 8) (N := none) (oi := ⟨none, Go.Op.store 107 (Go.Operand.tmp 62) (Go.Operand.tmp 61), 0, "outright.go:56", #[⟨7, Go.Ground.data⟩, ⟨6, Go.Ground.data⟩, ⟨6, Go.Ground.chain⟩, ⟨0, Go.Ground.phase⟩, ⟨1, Go.Ground.phase⟩, ⟨2, Go.Ground.phase⟩, ⟨3, Go.Ground.phase⟩, ⟨4, Go.Ground.phase⟩, ⟨5, Go.Ground.phase⟩, ⟨6, Go.Ground.phase⟩], none⟩) #[true, true, true, true, true, true, true, true, true] rfl rfl (by kernel_rfl) (by decide) (fun K hK => ?_)
        refine step_store_one _ (by rfl) rfl (.tmp 62) (.tmp 61) 107 rfl g 20 (.slice A2 (x.way ++ [ans]).length c2) rfl rfl size107 rfl rfl 109 _ hHeld.1 (by show 21 ≤ 24; omega) (WC { x with s := (grantL x.s (x.c.N 0) term mm.place (mm.holder : Int)).1, way := x.way ++ [ans] } p m1 a b (.slice A2 (x.way ++ [ans]).length c2) term margin) rfl ?_
        intro w8 hb8 hfr8
        have HE8 := Lib.hid ((HEV.out.o hHeld.2.2).way2 (Kd.R_lower H6.out (Nat.le_trans HLow.out HEV.out.out.size)) hb8 hfr8)
        have HR8 := Lib.hid ((HRV.out.o hHeld.2.2).away hfr8 hgr.symm)
        clear hb8 hfr8 hHeld
        refine hK.out _ _ ?_
        clear hK K
        try simp only [Act.put, List.setIfInBounds_toArray, List.set_cons_zero, List.set_cons_succ]
        refine done_ (by kernel_rfl) ?_
      rotate_left 1
      refine AllReadyL.cons (o := ⟨some 60, Go.Op.buildSlice 107 1 #[(0, Go.Operand.tmp 59)], 107, "outright.go:56", #[⟨4, Go.Ground.data⟩], none⟩) rfl (by decide) (fun K hK => ?_) ?_
      focus
        refine step_lit1 (by rfl) (.tmp 59) ans rfl rfl ?_
        intro g5 hg5 W7 hR5 hO
        have H5 := Lib.hid (Kd.R_lower hR5 hHeld.2.2.size)
        (try have hne05 := (show g5 ≠ g0 by rw [hg5]; exact Nat.ne_of_gt (KW_lt H0.out _ rfl)))
        (try have H0 := Lib.hid (KW_below H0.out hO))
        (try have H3 := Lib.hid (KW_below H3.out hO))
        clear hR5 hg5
        refine hK.out _ _ (⟨hHeld.1.o hO, hHeld.2.1.o hO, hHeld.2.2.thens hO⟩) (fun hHeld => ?_)
        clear hK K
        try simp only [Act.put, List.setIfInBounds_toArray, List.set_cons_zero, List.set_cons_succ]
        refine one_ (i := 3) (N := some 58) (oi := ⟨some 58, Go.Op.call ⟨Go.Callee.builtin Go.Builtin.append, #[Go.Operand.tmp 55, Go.Operand.tmp 57], #[107, 107]⟩, 107, "outright.go:56", #[⟨0, Go.Ground.data⟩, ⟨2, Go.Ground.data⟩], none⟩) #[true, true, true, true, true, true, false, false, false] rfl rfl (by kernel_rfl) (by decide) (fun K hK => ?_)
        refine step_app (V0 := V0) (by rfl) (.tmp 55) (.tmp 57) rfl _ [] x.way x.way rfl Aw x.way.length cw rfl rfl H0.out (KW_C (KW_below HEV.out.wd.way hHeld.2.2)).2.2 hHeld.2.2 (by have := HWl.out; simp; omega) ?_
        intro A1 c1 w1 hR1 hO1 hg1
        have H3 := Lib.hid hR1
        (try have H5 := Lib.hid (KW_keep H5.out hg1 (fun k hk hk2 => hne05 (Option.some.inj (hk.trans hk2.symm)))))
        clear hR1 hg1
        refine hK.out _ _ (⟨HEV.out.blk.o hO1, HKV.out.o hO1, hO1⟩) (fun hHeld => ?_)
        clear hK K
        try simp only [Act.put, List.setIfInBounds_toArray, List.set_cons_zero, List.set_cons_succ]
        refine one_ (i := 6) (N := some 61) (oi := ⟨some 61, Go.Op.call ⟨Go.Callee.builtin Go.Builtin.append, #[Go.Operand.tmp 58, Go.Operand.tmp 60], #[107, 107]⟩, 107, "outright.go:56", #[⟨3, Go.Ground.data⟩, ⟨5, Go.Ground.data⟩, ⟨3, Go.Ground.chain⟩], none⟩) #[true, true, true, true, true, true, true, false, false] rfl rfl (by kernel_rfl) (by decide) (fun K hK => ?_)
        refine step_app (V0 := V0) (by rfl) (.tmp 58) (.tmp 60) rfl _ x.way [ans] (x.way ++ [ans]) rfl (some ⟨g5, 0, none⟩) 1 1 rfl rfl H3.out (KW_C H5.out).2.2 hHeld.2.2 (by have := HWl.out; omega) ?_
        intro A2 c2 w2 hR2 hO2 hg2
        have H6 := Lib.hid hR2
        clear hR2 hg2
        refine hK.out _ _ (⟨HEV.out.blk.o hO2, HKV.out.o hO2, hO2⟩) (fun hHeld => ?_)
        clear hK K
        try simp only [Act.put, List.setIfInBounds_toArray, List.set_cons_zero, List.set_cons_succ]
        refine pure_ (i := 7) (N := some 62) (v := ?_) (a' := ?_) #[true, true, true, true, true, true, true, true, false] rfl rfl (by kernel_rfl) (fun _ _ _ h => h) (Or.inl ⟨by rfl, ?_⟩) ?_ ?_
        rotate_left
        · intro w'
          go_simp
          (try with_reducible rfl)
        rotate_left
        · simp only [Act.put, List.setIfInBounds_toArray, List.set_cons_zero, List.set_cons_succ]
          rfl
        refine last_ (i := 8) (N := none) (oi := ⟨none, Go.Op.store 107 (Go.Operand.tmp 62) (Go.Operand.tmp 61), 0, "outright.go:56", #[⟨7, Go.Ground.data⟩, ⟨6, Go.Ground.data⟩, ⟨6, Go.Ground.chain⟩, ⟨0, Go.Ground.phase⟩, ⟨1, Go.Ground.phase⟩, ⟨2, Go.Ground.phase⟩, ⟨3, Go.Ground.phase⟩, ⟨4, Go.Ground.phase⟩, ⟨5, Go.Ground.phase⟩, ⟨6, Go.Ground.phase⟩], none⟩) #[true, true, true, true, true, true, true, true, true] rfl rfl (by kernel_rfl) (by decide) (fun K hK => ?_)
        refine step_store_one _ (by rfl) rfl (.tmp 62) (.tmp 61) 107 rfl g 20 (.slice A2 (x.way ++ [ans]).length c2) rfl rfl size107 rfl rfl 109 _ hHeld.1 (by show 21 ≤ 24; omega) (WC { x with s := (grantL x.s (x.c.N 0) term mm.place (mm.holder : Int)).1, way := x.way ++ [ans] } p m1 a b (.slice A2 (x.way ++ [ans]).length c2) term margin) rfl ?_
        intro w8 hb8 hfr8
        have HE8 := Lib.hid ((HEV.out.o hHeld.2.2).way2 (Kd.R_lower H6.out (Nat.le_trans HLow.out HEV.out.out.size)) hb8 hfr8)
        have HR8 := Lib.hid ((HRV.out.o hHeld.2.2).away hfr8 hgr.symm)
        clear hb8 hfr8 hHeld
        refine hK.out _ _ ?_
        clear hK K
        try simp only [Act.put, List.setIfInBounds_toArray, List.set_cons_zero, List.set_cons_succ]
        refine done_ (by kernel_rfl) ?_
      rotate_left 1
      exact AllReadyL.nil
    rotate_left 2
    refine AllReadyL.cons (o := ⟨some 60, Go.Op.buildSlice 107 1 #[(0, Go.Operand.tmp 59)], 107, "outright.go:56", #[⟨4, Go.Ground.data⟩], none⟩) rfl (by decide) (fun K hK => ?_) ?_
    focus
      refine step_lit1 (by rfl) (.tmp 59) ans rfl rfl ?_
      intro g5 hg5 W7 hR5 hO
      have H5 := Lib.hid (Kd.R_lower hR5 hHeld.2.2.size)
      (try have hne05 := (show g5 ≠ g0 by rw [hg5]; exact Nat.ne_of_gt (KW_lt H0.out _ rfl)))
      (try have H0 := Lib.hid (KW_below H0.out hO))
      (try have H3 := Lib.hid (KW_below H3.out hO))
      clear hR5 hg5
      refine hK.out _ _ (⟨hHeld.1.o hO, hHeld.2.1.o hO, hHeld.2.2.thens hO⟩) (fun hHeld => ?_)
      clear hK K
      try simp only [Act.put, List.setIfInBounds_toArray, List.set_cons_zero, List.set_cons_succ]
      refine one_ (i := 0) (N := some 55) (oi := ⟨some 55, Go.Op.buildSlice 107 0 #[], 107, "outright.go:56", #[], none⟩) #[true, true, true, false, true, true, false, false, false] rfl rfl (by kernel_rfl) (by decide) (fun K hK => ?_)
      refine step_lit0 (by rfl) rfl ?_
      intro g0 hg0 W7 hR0 hO
      have H0 := Lib.hid (Kd.R_lower hR0 hHeld.2.2.size)
      (try have hne05 := (show g5 ≠ g0 by rw [hg0]; exact Nat.ne_of_lt (KW_lt H5.out _ rfl)))
      (try have H5 := Lib.hid (KW_below H5.out hO))
      clear hR0 hg0
      refine hK.out _ _ (⟨hHeld.1.o hO, hHeld.2.1.o hO, hHeld.2.2.thens hO⟩) (fun hHeld => ?_)
      clear hK K
      try simp only [Act.put, List.setIfInBounds_toArray, List.set_cons_zero, List.set_cons_succ]
      refine one_ (i := 3) (N := some 58) (oi := ⟨some 58, Go.Op.call ⟨Go.Callee.builtin Go.Builtin.append, #[Go.Operand.tmp 55, Go.Operand.tmp 57], #[107, 107]⟩, 107, "outright.go:56", #[⟨0, Go.Ground.data⟩, ⟨2, Go.Ground.data⟩], none⟩) #[true, true, true, true, true, true, false, false, false] rfl rfl (by kernel_rfl) (by decide) (fun K hK => ?_)
      refine step_app (V0 := V0) (by rfl) (.tmp 55) (.tmp 57) rfl _ [] x.way x.way rfl Aw x.way.length cw rfl rfl H0.out (KW_C (KW_below HEV.out.wd.way hHeld.2.2)).2.2 hHeld.2.2 (by have := HWl.out; simp; omega) ?_
      intro A1 c1 w1 hR1 hO1 hg1
      have H3 := Lib.hid hR1
      (try have H5 := Lib.hid (KW_keep H5.out hg1 (fun k hk hk2 => hne05 (Option.some.inj (hk.trans hk2.symm)))))
      clear hR1 hg1
      refine hK.out _ _ (⟨HEV.out.blk.o hO1, HKV.out.o hO1, hO1⟩) (fun hHeld => ?_)
      clear hK K
      try simp only [Act.put, List.setIfInBounds_toArray, List.set_cons_zero, List.set_cons_succ]
      refine one_ (i := 6) (N := some 61) (oi := ⟨some 61, Go.Op.call ⟨Go.Callee.builtin Go.Builtin.append, #[Go.Operand.tmp 58, Go.Operand.tmp 60], #[107, 107]⟩, 107, "outright.go:56", #[⟨3, Go.Ground.data⟩, ⟨5, Go.Ground.data⟩, ⟨3, Go.Ground.chain⟩], none⟩) #[true, true, true, true, true, true, true, false, false] rfl rfl (by kernel_rfl) (by decide) (fun K hK => ?_)
      refine step_app (V0 := V0) (by rfl) (.tmp 58) (.tmp 60) rfl _ x.way [ans] (x.way ++ [ans]) rfl (some ⟨g5, 0, none⟩) 1 1 rfl rfl H3.out (KW_C H5.out).2.2 hHeld.2.2 (by have := HWl.out; omega) ?_
      intro A2 c2 w2 hR2 hO2 hg2
      have H6 := Lib.hid hR2
      clear hR2 hg2
      refine hK.out _ _ (⟨HEV.out.blk.o hO2, HKV.out.o hO2, hO2⟩) (fun hHeld => ?_)
      clear hK K
      try simp only [Act.put, List.setIfInBounds_toArray, List.set_cons_zero, List.set_cons_succ]
      refine pure_ (i := 7) (N := some 62) (v := ?_) (a' := ?_) #[true, true, true, true, true, true, true, true, false] rfl rfl (by kernel_rfl) (fun _ _ _ h => h) (Or.inl ⟨by rfl, ?_⟩) ?_ ?_
      rotate_left
      · intro w'
        go_simp
        (try with_reducible rfl)
      rotate_left
      · simp only [Act.put, List.setIfInBounds_toArray, List.set_cons_zero, List.set_cons_succ]
        rfl
      refine last_ (i := 8) (N := none) (oi := ⟨none, Go.Op.store 107 (Go.Operand.tmp 62) (Go.Operand.tmp 61), 0, "outright.go:56", #[⟨7, Go.Ground.data⟩, ⟨6, Go.Ground.data⟩, ⟨6, Go.Ground.chain⟩, ⟨0, Go.Ground.phase⟩, ⟨1, Go.Ground.phase⟩, ⟨2, Go.Ground.phase⟩, ⟨3, Go.Ground.phase⟩, ⟨4, Go.Ground.phase⟩, ⟨5, Go.Ground.phase⟩, ⟨6, Go.Ground.phase⟩], none⟩) #[true, true, true, true, true, true, true, true, true] rfl rfl (by kernel_rfl) (by decide) (fun K hK => ?_)
      refine step_store_one _ (by rfl) rfl (.tmp 62) (.tmp 61) 107 rfl g 20 (.slice A2 (x.way ++ [ans]).length c2) rfl rfl size107 rfl rfl 109 _ hHeld.1 (by show 21 ≤ 24; omega) (WC { x with s := (grantL x.s (x.c.N 0) term mm.place (mm.holder : Int)).1, way := x.way ++ [ans] } p m1 a b (.slice A2 (x.way ++ [ans]).length c2) term margin) rfl ?_
      intro w8 hb8 hfr8
      have HE8 := Lib.hid ((HEV.out.o hHeld.2.2).way2 (Kd.R_lower H6.out (Nat.le_trans HLow.out HEV.out.out.size)) hb8 hfr8)
      have HR8 := Lib.hid ((HRV.out.o hHeld.2.2).away hfr8 hgr.symm)
      clear hb8 hfr8 hHeld
      refine hK.out _ _ ?_
      clear hK K
      try simp only [Act.put, List.setIfInBounds_toArray, List.set_cons_zero, List.set_cons_succ]
      refine done_ (by kernel_rfl) ?_
    rotate_left 1
    exact AllReadyL.nil
    all_goals
      go_wp2_with (first
          | ((with_reducible refine gate_dst (N := 127) rfl ?_); refine wpList_load_part _ rfl (.tmp 2) 109 rfl g 0 (WC { x with s := (grantL x.s (x.c.N 0) term mm.place (mm.holder : Int)).1, way := x.way ++ [ans] } p m1 a b (.slice A2 (x.way ++ [ans]).length c2) term margin) rfl agg109 size109 109 _ HE8.out.blk (fun j u hj => (by rw [Nat.zero_add]; simpa using hj)) ?_)
          | (refine wpList_store_part _ rfl (.tmp 4) (.tmp 127) 109 rfl r 0 (WC { x with s := (grantL x.s (x.c.N 0) term mm.place (mm.holder : Int)).1, way := x.way ++ [ans] } p m1 a b (.slice A2 (x.way ++ [ans]).length c2) term margin) rfl rfl size109 HE8.out.wd.one 109 _ HR8.out (Nat.le_refl _) (WC { x with s := (grantL x.s (x.c.N 0) term mm.place (mm.holder : Int)).1, way := x.way ++ [ans] } p m1 a b (.slice A2 (x.way ++ [ans]).length c2) term margin) rfl ?_; intro w9 hb9 hfr9; have HR9 := Lib.hid hb9; have HE9 := Lib.hid (HE8.out.away HR8.out (by decide) hrw hgr hfr9); clear hb9 hfr9)
          | fail)
      exact bodyPost_ret (results_blk1 Try.results65 _ _ r (WC { x with s := (grantL x.s (x.c.N 0) term mm.place (mm.holder : Int)).1, way := x.way ++ [ans] } p m1 a b (.slice A2 (x.way ++ [ans]).length c2) term margin) rfl agg109 size109 HR9.out) rfl ⟨_, _, _, _, rfl, HE9.out.wd, HE9.out.out⟩
set_option maxRecDepth 100000 in
set_option maxHeartbeats 8000000 in
theorem come1b (w : World) (lo p : Nat) (x : MW) (mm : Word) (m : Option Nat) (a b : Nat → Option Nat) (v : Value) (term margin : Int) (hk : Wd2 w lo p x m a b v) (hh : 1 ≤ mm.holder ∧ mm.holder ≤ 3) (hp : (Lit.int .i64 mm.place).wf = true) (hkd : mm.kind = 1) (hep : -9223372036854775808 ≤ x.s.epoch) (hsz : (lasting x.s.hs (x.c.N 0)).length < 1000000) (hwl : x.way.length ≤ 300) (hno : (grantL x.s (x.c.N 0) term mm.place (mm.holder : Int)).2.2 ≠ 0) :
    Calls Try.prog 65 #[.agg (WC x p m a b v term margin), .agg (wC mm)] w (Hands w lo p { x with s := (grantL x.s (x.c.N 0) term mm.place (mm.holder : Int)).1, way := x.way ++ [⟨3, mm.holder, mm.place, mm.num, (grantL x.s (x.c.N 0) term mm.place (mm.holder : Int)).2.1⟩] } term margin) := by
  obtain ⟨hh1, hh3⟩ := hh
  obtain ⟨Aw, cw, rfl⟩ := Kd.R_slice hk.way
  have HEp := Lib.hid hep
  have HSz := Lib.hid hsz
  have HWl := Lib.hid hwl
  obtain ⟨ne, hne⟩ : ∃ ne, ne = (grantL x.s (x.c.N 0) term mm.place (mm.holder : Int)).2.1 := ⟨_, rfl⟩
  have HNe := Lib.hid hne
  obtain ⟨ans, hans⟩ : ∃ ans : Word, ans = ⟨3, mm.holder, mm.place, mm.num, ne⟩ := ⟨_, rfl⟩
  have HAns := Lib.hid hans
  rw [← hne, ← hans]
  obtain ⟨ce, hce⟩ : ∃ ce, (grantL x.s (x.c.N 0) term mm.place (mm.holder : Int)).2.2 = ce := ⟨_, rfl⟩
  have hce0 : (ce == 0) = false := beq_eq_false_iff_ne.2 (by rw [← hce]; exact hno)
  have HG : Hid ((grantL x.s (x.c.N 0) term mm.place (mm.holder : Int)) = ((grantL x.s (x.c.N 0) term mm.place (mm.holder : Int)).1, ne, ce)) := Lib.hid (by rw [hne, ← hce])
  clear hce hno
  clear hne hans hep hsz hwl
  have HKW := Lib.hid hk
  have HKP := Lib.hid hp
  have HLow := Lib.hid hk.full
  have hh4 : mm.holder < 4 := by omega
  have hhI : (mm.holder : Int) < 4 := by omega
  have hh0 : ¬ (mm.holder : Int) < 0 := by omega
  have hu41 := Try.underlying41
  have hu57 := Try.underlying57
  have hu106 := Try.underlying106
  have hu107 := Try.underlying107
  have hu141 := Try.underlying141
  have HB0 := Lib.hid (Only.refl w.heap.size w.heap.size w)
  clear hk hp
  go_enter Try.func65, Try.ntmps65
  go_wp2_with (first
    | ((with_reducible refine gate_dst (N := 2) rfl ?_); refine box_event rfl (N := 2) rfl (cs := (WC x p m a b (.slice Aw x.way.length cw) term margin)) (t := 109) ?hr ?_; (case hr => first | (go_simp; done) | (go_simp; rfl)); intro g hg W1 hbox hb; have HE1 : Hid (Ed w W1 g lo p x m a b (.slice Aw x.way.length cw) term margin) := Lib.hid ⟨hbox, HKW.out.kept (Out.of hb), Out.of hb, (by rw [hg]; exact Nat.le_refl _), HLow.out⟩; clear hg hbox hb)
    | ((with_reducible refine gate_dst (N := 3) rfl ?_); refine box_event rfl (N := 3) rfl (cs := wC mm) (t := 141) ?hr ?_; (case hr => first | (go_simp; done) | (go_simp; rfl)); intro q hq W2 hbox hb; have HQ2 := Lib.hid (show Blk W2 q 141 (wC mm) from hbox); have HE2 := Lib.hid (HE1.out.o (Out.of hb)); have hgq : g ≠ q := (by rw [hq]; exact Nat.ne_of_lt HE1.out.blk.lt); clear hq hbox hb)
    | ((with_reducible refine gate_dst (N := 4) rfl ?_); refine box_event rfl (N := 4) rfl (cs := Z24) (t := 109) ?hr ?_; (case hr => first | (go_simp; done) | (go_simp; rfl)); intro r hr W3 hbox hb; have HR := Lib.hid (show Blk W3 r 109 Z24 from hbox); have HE := Lib.hid (HE2.out.o (Out.of hb)); have HQ := Lib.hid (HQ2.out.o (Out.of hb)); have hgr : g ≠ r := (by rw [hr]; exact Nat.ne_of_lt HE2.out.blk.lt); have hrw : w.heap.size ≤ r := (by rw [hr]; exact HE2.out.out.size); have HNow : Hid (∀ V, Out W3 V → Calls Try.prog 21 #[.pointer (some ⟨p, 0, none⟩), .int .i64 (mm.holder : Int)] V fun e w' => e = .returned (.int .i64 (x.c.N mm.holder)) ∧ V = w') := Lib.hid (fun V hX => now_some V lo (lo + 4) p 4 x.c (HE.out.wd.kept hX).clk mm.holder (by decide) hh4); have c0 : W3.cell? ⟨g, 0, none⟩ = some (.pointer (some ⟨p, 0, none⟩)) := HE.out.blk.cell 0; have q1 : W3.cell? ⟨q, 1, none⟩ = some (.int .i64 (mm.holder : Int)) := HQ.out.cell 1; have q0 : W3.cell? ⟨q, 0, none⟩ = some (.int .i64 1) := (by rw [← hkd]; exact HQ.out.cell 0); clear hr hbox hb HE1 HE2 HQ2)
    | (go_at_call 21; (with_reducible refine (HNow.out _ (Only.refl _ _ _)).mono ?_); rintro e5 W5 ⟨rfl, rfl⟩)
    | fail)
  have HS3 := Lib.hid HE.out.out.size
  have HNow0 : Hid (∀ V, Out W3 V → Calls Try.prog 21 #[.pointer (some ⟨p, 0, none⟩), .int .i64 0] V fun e w' => e = .returned (.int .i64 (x.c.N 0)) ∧ V = w') := Lib.hid (fun V hX => now_some V lo (lo + 4) p 4 x.c (HE.out.wd.kept hX).clk 0 (by decide) (by omega))
  have HGr : Hid (∀ V, Out W3 V → Calls Try.prog 34 #[.agg (sC x.s m), .int .i64 (x.c.N 0), .int .i64 term, .int .i64 mm.place, .int .i64 (mm.holder : Int)] V fun e w' => ∃ m1, e = .returned (.tuple #[.agg (sC (grantL x.s (x.c.N 0) term mm.place (mm.holder : Int)).1 m1), .int .i64 ne, .int .i64 ce]) ∧ MapIs tripE w' m1 (grantL x.s (x.c.N 0) term mm.place (mm.holder : Int)).1.hs ∧ Out W3 w' ∧ Out V w') := Lib.hid (fun V hX => (by have h := grantL_from hX (S := x.s) (now := x.c.N 0) (term := term) (place := mm.place) (holder := (mm.holder : Int)) HE.out.wd.s rfl rfl rfl rfl HKP.out HEp.out HSz.out HG.out; exact h))
  go_wp2_with fail
  refine start_ (n := 21) (S := fun W' => Blk W' g 109 (WC x p m a b (.slice Aw x.way.length cw) term margin) ∧ Blk W' q 141 (wC mm) ∧ Out W3 W') (ds := [18]) #[false, false, false, false, false, false, false, false, false, false, false, false, false, false, false, false, false, false, false, false, false] (by kernel_rfl) rfl rfl (⟨HE.out.blk.drew, HQ.out.drew, (Only.refl _ _ _).drew⟩) (fun hHeld => ?_)
  refine pure_ (i := 0) (N := some 26) (v := ?_) (a' := ?_) #[true, false, false, false, false, false, false, false, false, false, false, false, false, false, false, false, false, false, false, false, false] rfl rfl (by kernel_rfl) (fun _ _ _ h => h) (Or.inl ⟨by rfl, ?_⟩) ?_ ?_
  rotate_left
  · intro w'
    go_simp
    (try with_reducible rfl)
  rotate_left
  · simp only [Act.put, List.setIfInBounds_toArray, List.set_cons_zero, List.set_cons_succ]
    rfl
  refine pure_ (i := 2) (N := some 28) (v := ?_) (a' := ?_) #[true, false, true, false, false, false, false, false, false, false, false, false, false, false, false, false, false, false, false, false, false] rfl rfl (by kernel_rfl) (fun _ _ _ h => h) (Or.inl ⟨by rfl, ?_⟩) ?_ ?_
  rotate_left
  · intro w'
    go_simp
    (try with_reducible rfl)
  rotate_left
  · simp only [Act.put, List.setIfInBounds_toArray, List.set_cons_zero, List.set_cons_succ]
    rfl
  refine pure_ (i := 5) (N := some 31) (v := ?_) (a' := ?_) #[true, false, true, false, false, true, false, false, false, false, false, false, false, false, false, false, false, false, false, false, false] rfl rfl (by kernel_rfl) (fun _ _ _ h => h) (Or.inl ⟨by rfl, ?_⟩) ?_ ?_
  rotate_left
  · intro w'
    go_simp
    (try with_reducible rfl)
  rotate_left
  · simp only [Act.put, List.setIfInBounds_toArray, List.set_cons_zero, List.set_cons_succ]
    rfl
  refine pure_ (i := 6) (N := some 32) (v := ?_) (a' := ?_) #[true, false, true, false, false, true, true, false, false, false, false, false, false, false, false, false, false, false, false, false, false] rfl rfl (by kernel_rfl) (fun _ _ _ h => h) (Or.inl ⟨by rfl, ?_⟩) ?_ ?_
  rotate_left
  · intro w'
    go_simp
    (try with_reducible rfl)
  rotate_left
  · simp only [Act.put, List.setIfInBounds_toArray, List.set_cons_zero, List.set_cons_succ]
    rfl
  refine pure_ (i := 8) (N := some 34) (v := ?_) (a' := ?_) #[true, false, true, false, false, true, true, false, true, false, false, false, false, false, false, false, false, false, false, false, false] rfl rfl (by kernel_rfl) (fun _ _ _ h => h) (Or.inl ⟨by rfl, ?_⟩) ?_ ?_
  rotate_left
  · intro w'
    go_simp
    (try with_reducible rfl)
  rotate_left
  · simp only [Act.put, List.setIfInBounds_toArray, List.set_cons_zero, List.set_cons_succ]
    rfl
  refine pure_ (i := 10) (N := some 36) (v := ?_) (a' := ?_) #[true, false, true, false, false, true, true, false, true, false, true, false, false, false, false, false, false, false, false, false, false] rfl rfl (by kernel_rfl) (fun _ _ _ h => h) (Or.inl ⟨by rfl, ?_⟩) ?_ ?_
  rotate_left
  · intro w'
    go_simp
    (try with_reducible rfl)
  rotate_left
  · simp only [Act.put, List.setIfInBounds_toArray, List.set_cons_zero, List.set_cons_succ]
    rfl
  refine take_ (i := 1) (N := some 27) (v := ?_) (a' := ?_) #[true, true, true, false, false, true, true, false, true, false, true, false, false, false, false, false, false, false, false, false, false] rfl rfl (by kernel_rfl) (fun _ _ _ h => h) (Or.inl ⟨by rfl, ?_⟩) hHeld ?_ ?_
  rotate_left
  · intro w' s0
    obtain ⟨t1, t2, t3⟩ := s0
    refine exec_load_part _ (.tmp 26) 57 ?_ g 1 (sC x.s m) ?_ agg57 size57 109 _ t1 ?_
    · rfl
    · (first | rfl | (simp [Act.eval]))
    · exact WC_s
  rotate_left
  · simp only [Act.put, List.setIfInBounds_toArray, List.set_cons_zero, List.set_cons_succ]
    rfl
  refine take_ (i := 3) (N := some 29) (v := ?_) (a' := ?_) #[true, true, true, true, false, true, true, false, true, false, true, false, false, false, false, false, false, false, false, false, false] rfl rfl (by kernel_rfl) (fun _ _ _ h => h) (Or.inl ⟨by rfl, ?_⟩) hHeld ?_ ?_
  rotate_left
  · intro w' s0
    obtain ⟨t1, t2, t3⟩ := s0
    have c0 : w'.cell? ⟨g, 0, none⟩ = some (.pointer (some ⟨p, 0, none⟩)) := t1.cell 0
    go_simp
    (try with_reducible rfl)
  rotate_left
  · simp only [Act.put, List.setIfInBounds_toArray, List.set_cons_zero, List.set_cons_succ]
    rfl
  refine take_ (i := 7) (N := some 33) (v := ?_) (a' := ?_) #[true, true, true, true, false, true, true, true, true, false, true, false, false, false, false, false, false, false, false, false, false] rfl rfl (by kernel_rfl) (fun _ _ _ h => h) (Or.inl ⟨by rfl, ?_⟩) hHeld ?_ ?_
  rotate_left
  · intro w' s0
    obtain ⟨t1, t2, t3⟩ := s0
    have c0 : w'.cell? ⟨g, 21, none⟩ = some (.int .i64 term) := t1.cell 21
    go_simp
    (try with_reducible rfl)
  rotate_left
  · simp only [Act.put, List.setIfInBounds_toArray, List.set_cons_zero, List.set_cons_succ]
    rfl
  refine take_ (i := 9) (N := some 35) (v := ?_) (a' := ?_) #[true, true, true, true, false, true, true, true, true, true, true, false, false, false, false, false, false, false, false, false, false] rfl rfl (by kernel_rfl) (fun _ _ _ h => h) (Or.inl ⟨by rfl, ?_⟩) hHeld ?_ ?_
  rotate_left
  · intro w' s0
    obtain ⟨t1, t2, t3⟩ := s0
    have c0 : w'.cell? ⟨q, 2, none⟩ = some (.int .i64 mm.place) := t2.cell 2
    go_simp
    (try with_reducible rfl)
  rotate_left
  · simp only [Act.put, List.setIfInBounds_toArray, List.set_cons_zero, List.set_cons_succ]
    rfl
  refine take_ (i := 11) (N := some 37) (v := ?_) (a' := ?_) #[true, true, true, true, false, true, true, true, true, true, true, true, false, false, false, false, false, false, false, false, false] rfl rfl (by kernel_rfl) (fun _ _ _ h => h) (Or.inl ⟨by rfl, ?_⟩) hHeld ?_ ?_
  rotate_left
  · intro w' s0
    obtain ⟨t1, t2, t3⟩ := s0
    have c0 : w'.cell? ⟨q, 1, none⟩ = some (.int .i64 (mm.holder : Int)) := t2.cell 1
    go_simp
    (try with_reducible rfl)
  rotate_left
  · simp only [Act.put, List.setIfInBounds_toArray, List.set_cons_zero, List.set_cons_succ]
    rfl
  refine wpAnyLast_ready (rs := [4, 17]) (by kernel_rfl) (by simp) ?_
  refine AllReadyL.cons (o := ⟨some 30, Go.Op.call ⟨Go.Callee.value (Go.Operand.func 21), #[Go.Operand.tmp 29, Go.Operand.const (Go.Value.int Go.IntKind.i64 0)], #[24, 3]⟩, 3, "outright.go:50", #[⟨3, Go.Ground.data⟩], none⟩) rfl (by decide) (fun K hK => ?_) ?_
  focus
    rw [if_pos (by rfl)]
    go_simp
    (go_at_call 21; (with_reducible refine (HNow0.out _ hHeld.2.2).mono ?_); rintro e5 W5 ⟨rfl, rfl⟩)
    refine hK.out _ _ (hHeld) (fun hHeld => ?_)
    clear hK K
    try simp only [Act.put, List.setIfInBounds_toArray, List.set_cons_zero, List.set_cons_succ]
    refine wpAnyLast_ready (rs := [12, 17]) (by kernel_rfl) (by simp) ?_
    refine AllReadyL.cons (o := ⟨some 38, Go.Op.call ⟨Go.Callee.value (Go.Operand.func 34), #[Go.Operand.tmp 27, Go.Operand.tmp 30, Go.Operand.tmp 33, Go.Operand.tmp 35, Go.Operand.tmp 37], #[57, 3, 3, 3, 3]⟩, 63, "outright.go:50", #[⟨1, Go.Ground.data⟩, ⟨4, Go.Ground.data⟩, ⟨7, Go.Ground.data⟩, ⟨9, Go.Ground.data⟩, ⟨11, Go.Ground.data⟩, ⟨4, Go.Ground.chain⟩], none⟩) rfl (by decide) (fun K hK => ?_) ?_
    focus
      rw [if_pos (by rfl)]
      go_simp
      (go_at_call 34; (with_reducible refine (HGr.out _ hHeld.2.2).mono ?_); rintro e6 W9 ⟨m1, rfl, hm1, hX6, hV6⟩; have HM1 := Lib.hid hm1; clear hm1; (try have HZ := Lib.hid (HZ.out.o hV6)))
      refine hK.out _ _ (⟨hHeld.1.o hV6, hHeld.2.1.o hV6, hX6⟩) (fun hHeld => ?_)
      clear hK K
      try simp only [Act.put, List.setIfInBounds_toArray, List.set_cons_zero, List.set_cons_succ]
      refine pure_ (i := 13) (N := some 25) (v := ?_) (a' := ?_) #[true, true, true, true, true, true, true, true, true, true, true, true, true, true, false, false, false, false, false, false, false] rfl rfl (by kernel_rfl) (fun _ _ _ h => h) (Or.inl ⟨by rfl, ?_⟩) ?_ ?_
      rotate_left
      · intro w'
        go_simp
        (try with_reducible rfl)
      rotate_left
      · simp only [Act.put, List.setIfInBounds_toArray, List.set_cons_zero, List.set_cons_succ]
        rfl
      refine pure_ (i := 14) (N := some 39) (v := ?_) (a' := ?_) #[true, true, true, true, true, true, true, true, true, true, true, true, true, true, true, false, false, false, false, false, false] rfl rfl (by kernel_rfl) (fun _ _ _ h => h) (Or.inl ⟨by rfl, ?_⟩) ?_ ?_
      rotate_left
      · intro w'
        go_simp
        (try with_reducible rfl)
      rotate_left
      · simp only [Act.put, List.setIfInBounds_toArray, List.set_cons_zero, List.set_cons_succ]
        rfl
      refine pure_ (i := 15) (N := some 40) (v := ?_) (a' := ?_) #[true, true, true, true, true, true, true, true, true, true, true, true, true, true, true, true, false, false, false, false, false] rfl rfl (by kernel_rfl) (fun _ _ _ h => h) (Or.inl ⟨by rfl, ?_⟩) ?_ ?_
      rotate_left
      · intro w'
        go_simp
        (try with_reducible rfl)
      rotate_left
      · simp only [Act.put, List.setIfInBounds_toArray, List.set_cons_zero, List.set_cons_succ]
        rfl
      refine pure_ (i := 16) (N := some 41) (v := ?_) (a' := ?_) #[true, true, true, true, true, true, true, true, true, true, true, true, true, true, true, true, true, false, false, false, false] rfl rfl (by kernel_rfl) (fun _ _ _ h => h) (Or.inl ⟨by rfl, ?_⟩) ?_ ?_
      rotate_left
      · intro w'
        go_simp
        (try with_reducible rfl)
      rotate_left
      · simp only [Act.put, List.setIfInBounds_toArray, List.set_cons_zero, List.set_cons_succ]
        rfl
      refine one_ (i := 17) (N := some 6) (oi := ⟨some 6, Go.Op.alloc 57, 0, "outright.go:50", #[], none⟩) #[true, true, true, true, true, true, true, true, true, true, true, true, true, true, true, true, true, true, false, false, false] rfl rfl (by kernel_rfl) (by decide) (fun K hK => ?_)
      refine step_alloc (by rfl) rfl (cs := #[.int .i64 0, .int .i64 0, .map none]) (t := 57) ?hr ?_
      (case hr => first | (go_simp; done) | (go_simp; rfl))
      intro h hh W7 hbox hO
      have HZ := Lib.hid hbox
      have hne : g ≠ h := (by rw [hh]; exact Nat.ne_of_lt hHeld.1.lt)
      have hneq : q ≠ h := (by rw [hh]; exact Nat.ne_of_lt hHeld.2.1.lt)
      have hge : W3.heap.size ≤ h := (by rw [hh]; exact hHeld.2.2.size)
      (try have HM1 := Lib.hid (mapIs_out HM1.out hO))
      clear hh hbox
      refine hK.out _ _ (⟨hHeld.1.o hO, hHeld.2.1.o hO, hHeld.2.2.thens hO⟩) (fun hHeld => ?_)
      clear hK K
      try simp only [Act.put, List.setIfInBounds_toArray, List.set_cons_zero, List.set_cons_succ]
      refine last_ (i := 18) (N := none) (oi := ⟨none, Go.Op.store 57 (Go.Operand.tmp 6) (Go.Operand.tmp 39), 0, "outright.go:50", #[⟨17, Go.Ground.data⟩, ⟨14, Go.Ground.data⟩, ⟨12, Go.Ground.chain⟩, ⟨0, Go.Ground.phase⟩, ⟨1, Go.Ground.phase⟩, ⟨2, Go.Ground.phase⟩, ⟨3, Go.Ground.phase⟩, ⟨4, Go.Ground.phase⟩, ⟨5, Go.Ground.phase⟩, ⟨6, Go.Ground.phase⟩, ⟨7, Go.Ground.phase⟩, ⟨8, Go.Ground.phase⟩, ⟨9, Go.Ground.phase⟩, ⟨10, Go.Ground.phase⟩, ⟨11, Go.Ground.phase⟩, ⟨12, Go.Ground.phase⟩, ⟨13, Go.Ground.phase⟩, ⟨14, Go.Ground.phase⟩, { on := 15, ground := Go.Ground.textOnly Go.Departure.lateStores }, { on := 16, ground := Go.Ground.textOnly Go.Departure.lateStores }, ⟨17, Go.Ground.phase⟩], none⟩) #[true, true, true, true, true, true, true, true, true, true, true, true, true, true, true, true, true, true, true, false, false] rfl rfl (by kernel_rfl) (by decide) (fun K hK => ?_)
      refine step_store_part _ (by rfl) rfl (.tmp 6) (.tmp 39) 57 rfl h 0 ((sC (grantL x.s (x.c.N 0) term mm.place (mm.holder : Int)).1 m1)) rfl rfl size57 rfl 57 _ HZ.out (Nat.le_refl _) ((sC (grantL x.s (x.c.N 0) term mm.place (mm.holder : Int)).1 m1)) rfl ?_
      intro w7 hb7 hfr
      have HY7 := Lib.hid hb7
      have HQ7 := Lib.hid (hHeld.2.1.away hfr hneq)
      have HE7 := Lib.hid ((HE.out.o hHeld.2.2).away HZ.out (by decide) (Nat.le_trans HS3.out hge) hne hfr)
      have HR7 := Lib.hid ((HR.out.o hHeld.2.2).away hfr (Nat.ne_of_lt (Nat.lt_of_lt_of_le HR.out.lt hge)))
      have HM1 := Lib.hid (mapIs_far HM1.out HZ.out hfr)
      have q1 : w7.cell? ⟨q, 1, none⟩ = some (.int .i64 (mm.holder : Int)) := HQ7.out.cell 1
      clear hb7 hfr hHeld
      refine hK.out _ _ ?_
      clear hK K
      try simp only [Act.put, List.setIfInBounds_toArray, List.set_cons_zero, List.set_cons_succ]
      refine pure_ (i := 19) (N := some 7) (v := ?_) (a' := ?_) #[true, true, true, true, true, true, true, true, true, true, true, true, true, true, true, true, true, true, true, true, false] rfl rfl (by kernel_rfl) (fun _ _ _ h => h) (Or.inl ⟨by rfl, ?_⟩) ?_ ?_
      rotate_left
      · intro w'
        go_simp
        (try with_reducible rfl)
      rotate_left
      · simp only [Act.put, List.setIfInBounds_toArray, List.set_cons_zero, List.set_cons_succ]
        rfl
      refine pure_ (i := 20) (N := some 8) (v := ?_) (a' := ?_) #[true, true, true, true, true, true, true, true, true, true, true, true, true, true, true, true, true, true, true, true, true] rfl rfl (by kernel_rfl) (fun _ _ _ h => h) (Or.inl ⟨by rfl, ?_⟩) ?_ ?_
      rotate_left
      · intro w'
        go_simp
        (try with_reducible rfl)
      rotate_left
      · simp only [Act.put, List.setIfInBounds_toArray, List.set_cons_zero, List.set_cons_succ]
        rfl
      refine done_ (by kernel_rfl) ?_
    rotate_left 1
    refine AllReadyL.cons (o := ⟨some 6, Go.Op.alloc 57, 0, "outright.go:50", #[], none⟩) rfl (by decide) (fun K hK => ?_) ?_
    focus
      refine step_alloc (by rfl) rfl (cs := #[.int .i64 0, .int .i64 0, .map none]) (t := 57) ?hr ?_
      (case hr => first | (go_simp; done) | (go_simp; rfl))
      intro h hh W7 hbox hO
      have HZ := Lib.hid hbox
      have hne : g ≠ h := (by rw [hh]; exact Nat.ne_of_lt hHeld.1.lt)
      have hneq : q ≠ h := (by rw [hh]; exact Nat.ne_of_lt hHeld.2.1.lt)
      have hge : W3.heap.size ≤ h := (by rw [hh]; exact hHeld.2.2.size)
      (try have HM1 := Lib.hid (mapIs_out HM1.out hO))
      clear hh hbox
      refine hK.out _ _ (⟨hHeld.1.o hO, hHeld.2.1.o hO, hHeld.2.2.thens hO⟩) (fun hHeld => ?_)
      clear hK K
      try simp only [Act.put, List.setIfInBounds_toArray, List.set_cons_zero, List.set_cons_succ]
      refine one_ (i := 12) (N := some 38) (oi := ⟨some 38, Go.Op.call ⟨Go.Callee.value (Go.Operand.func 34), #[Go.Operand.tmp 27, Go.Operand.tmp 30, Go.Operand.tmp 33, Go.Operand.tmp 35, Go.Operand.tmp 37], #[57, 3, 3, 3, 3]⟩, 63, "outright.go:50", #[⟨1, Go.Ground.data⟩, ⟨4, Go.Ground.data⟩, ⟨7, Go.Ground.data⟩, ⟨9, Go.Ground.data⟩, ⟨11, Go.Ground.data⟩, ⟨4, Go.Ground.chain⟩], none⟩) #[true, true, true, true, true, true, true, true, true, true, true, true, true, false, false, false, false, true, false, false, false] rfl rfl (by kernel_rfl) (by decide) (fun K hK => ?_)
      rw [if_pos (by rfl)]
      go_simp
      (go_at_call 34; (with_reducible refine (HGr.out _ hHeld.2.2).mono ?_); rintro e6 W9 ⟨m1, rfl, hm1, hX6, hV6⟩; have HM1 := Lib.hid hm1; clear hm1; (try have HZ := Lib.hid (HZ.out.o hV6)))
      refine hK.out _ _ (⟨hHeld.1.o hV6, hHeld.2.1.o hV6, hX6⟩) (fun hHeld => ?_)
      clear hK K
      try simp only [Act.put, List.setIfInBounds_toArray, List.set_cons_zero, List.set_cons_succ]
      refine pure_ (i := 13) (N := some 25) (v := ?_) (a' := ?_) #[true, true, true, true, true, true, true, true, true, true, true, true, true, true, false, false, false, true, false, false, false] rfl rfl (by kernel_rfl) (fun _ _ _ h => h) (Or.inl ⟨by rfl, ?_⟩) ?_ ?_
      rotate_left
      · intro w'
        go_simp
        (try with_reducible rfl)
      rotate_left
      · simp only [Act.put, List.setIfInBounds_toArray, List.set_cons_zero, List.set_cons_succ]
        rfl
      refine pure_ (i := 14) (N := some 39) (v := ?_) (a' := ?_) #[true, true, true, true, true, true, true, true, true, true, true, true, true, true, true, false, false, true, false, false, false] rfl rfl (by kernel_rfl) (fun _ _ _ h => h) (Or.inl ⟨by rfl, ?_⟩) ?_ ?_
      rotate_left
      · intro w'
        go_simp
        (try with_reducible rfl)
      rotate_left
      · simp only [Act.put, List.setIfInBounds_toArray, List.set_cons_zero, List.set_cons_succ]
        rfl
      refine pure_ (i := 15) (N := some 40) (v := ?_) (a' := ?_) #[true, true, true, true, true, true, true, true, true, true, true, true, true, true, true, true, false, true, false, false, false] rfl rfl (by kernel_rfl) (fun _ _ _ h => h) (Or.inl ⟨by rfl, ?_⟩) ?_ ?_
      rotate_left
      · intro w'
        go_simp
        (try with_reducible rfl)
      rotate_left
      · simp only [Act.put, List.setIfInBounds_toArray, List.set_cons_zero, List.set_cons_succ]
        rfl
      refine pure_ (i := 16) (N := some 41) (v := ?_) (a' := ?_) #[true, true, true, true, true, true, true, true, true, true, true, true, true, true, true, true, true, true, false, false, false] rfl rfl (by kernel_rfl) (fun _ _ _ h => h) (Or.inl ⟨by rfl, ?_⟩) ?_ ?_
      rotate_left
      · intro w'
        go_simp
        (try with_reducible rfl)
      rotate_left
      · simp only [Act.put, List.setIfInBounds_toArray, List.set_cons_zero, List.set_cons_succ]
        rfl
      refine last_ (i := 18) (N := none) (oi := ⟨none, Go.Op.store 57 (Go.Operand.tmp 6) (Go.Operand.tmp 39), 0, "outright.go:50", #[⟨17, Go.Ground.data⟩, ⟨14, Go.Ground.data⟩, ⟨12, Go.Ground.chain⟩, ⟨0, Go.Ground.phase⟩, ⟨1, Go.Ground.phase⟩, ⟨2, Go.Ground.phase⟩, ⟨3, Go.Ground.phase⟩, ⟨4, Go.Ground.phase⟩, ⟨5, Go.Ground.phase⟩, ⟨6, Go.Ground.phase⟩, ⟨7, Go.Ground.phase⟩, ⟨8, Go.Ground.phase⟩, ⟨9, Go.Ground.phase⟩, ⟨10, Go.Ground.phase⟩, ⟨11, Go.Ground.phase⟩, ⟨12, Go.Ground.phase⟩, ⟨13, Go.Ground.phase⟩, ⟨14, Go.Ground.phase⟩, { on := 15, ground := Go.Ground.textOnly Go.Departure.lateStores }, { on := 16, ground := Go.Ground.textOnly Go.Departure.lateStores }, ⟨17, Go.Ground.phase⟩], none⟩) #[true, true, true, true, true, true, true, true, true, true, true, true, true, true, true, true, true, true, true, false, false] rfl rfl (by kernel_rfl) (by decide) (fun K hK => ?_)
      refine step_store_part _ (by rfl) rfl (.tmp 6) (.tmp 39) 57 rfl h 0 ((sC (grantL x.s (x.c.N 0) term mm.place (mm.holder : Int)).1 m1)) rfl rfl size57 rfl 57 _ HZ.out (Nat.le_refl _) ((sC (grantL x.s (x.c.N 0) term mm.place (mm.holder : Int)).1 m1)) rfl ?_
      intro w7 hb7 hfr
      have HY7 := Lib.hid hb7
      have HQ7 := Lib.hid (hHeld.2.1.away hfr hneq)
      have HE7 := Lib.hid ((HE.out.o hHeld.2.2).away HZ.out (by decide) (Nat.le_trans HS3.out hge) hne hfr)
      have HR7 := Lib.hid ((HR.out.o hHeld.2.2).away hfr (Nat.ne_of_lt (Nat.lt_of_lt_of_le HR.out.lt hge)))
      have HM1 := Lib.hid (mapIs_far HM1.out HZ.out hfr)
      have q1 : w7.cell? ⟨q, 1, none⟩ = some (.int .i64 (mm.holder : Int)) := HQ7.out.cell 1
      clear hb7 hfr hHeld
      refine hK.out _ _ ?_
      clear hK K
      try simp only [Act.put, List.setIfInBounds_toArray, List.set_cons_zero, List.set_cons_succ]
      refine pure_ (i := 19) (N := some 7) (v := ?_) (a' := ?_) #[true, true, true, true, true, true, true, true, true, true, true, true, true, true, true, true, true, true, true, true, false] rfl rfl (by kernel_rfl) (fun _ _ _ h => h) (Or.inl ⟨by rfl, ?_⟩) ?_ ?_
      rotate_left
      · intro w'
        go_simp
        (try with_reducible rfl)
      rotate_left
      · simp only [Act.put, List.setIfInBounds_toArray, List.set_cons_zero, List.set_cons_succ]
        rfl
      refine pure_ (i := 20) (N := some 8) (v := ?_) (a' := ?_) #[true, true, true, true, true, true, true, true, true, true, true, true, true, true, true, true, true, true, true, true, true] rfl rfl (by kernel_rfl) (fun _ _ _ h => h) (Or.inl ⟨by rfl, ?_⟩) ?_ ?_
      rotate_left
      · intro w'
        go_simp
        (try with_reducible rfl)
      rotate_left
      · simp only [Act.put, List.setIfInBounds_toArray, List.set_cons_zero, List.set_cons_succ]
        rfl
      refine done_ (by kernel_rfl) ?_
    rotate_left 1
    exact AllReadyL.nil
  rotate_left 2
  refine AllReadyL.cons (o := ⟨some 6, Go.Op.alloc 57, 0, "outright.go:50", #[], none⟩) rfl (by decide) (fun K hK => ?_) ?_
  focus
    refine step_alloc (by rfl) rfl (cs := #[.int .i64 0, .int .i64 0, .map none]) (t := 57) ?hr ?_
    (case hr => first | (go_simp; done) | (go_simp; rfl))
    intro h hh W7 hbox hO
    have HZ := Lib.hid hbox
    have hne : g ≠ h := (by rw [hh]; exact Nat.ne_of_lt hHeld.1.lt)
    have hneq : q ≠ h := (by rw [hh]; exact Nat.ne_of_lt hHeld.2.1.lt)
    have hge : W3.heap.size ≤ h := (by rw [hh]; exact hHeld.2.2.size)
    (try have HM1 := Lib.hid (mapIs_out HM1.out hO))
    clear hh hbox
    refine hK.out _ _ (⟨hHeld.1.o hO, hHeld.2.1.o hO, hHeld.2.2.thens hO⟩) (fun hHeld => ?_)
    clear hK K
    try simp only [Act.put, List.setIfInBounds_toArray, List.set_cons_zero, List.set_cons_succ]
    refine one_ (i := 4) (N := some 30) (oi := ⟨some 30, Go.Op.call ⟨Go.Callee.value (Go.Operand.func 21), #[Go.Operand.tmp 29, Go.Operand.const (Go.Value.int Go.IntKind.i64 0)], #[24, 3]⟩, 3, "outright.go:50", #[⟨3, Go.Ground.data⟩], none⟩) #[true, true, true, true, true, true, true, true, true, true, true, true, false, false, false, false, false, true, false, false, false] rfl rfl (by kernel_rfl) (by decide) (fun K hK => ?_)
    rw [if_pos (by rfl)]
    go_simp
    (go_at_call 21; (with_reducible refine (HNow0.out _ hHeld.2.2).mono ?_); rintro e5 W5 ⟨rfl, rfl⟩)
    refine hK.out _ _ (hHeld) (fun hHeld => ?_)
    clear hK K
    try simp only [Act.put, List.setIfInBounds_toArray, List.set_cons_zero, List.set_cons_succ]
    refine one_ (i := 12) (N := some 38) (oi := ⟨some 38, Go.Op.call ⟨Go.Callee.value (Go.Operand.func 34), #[Go.Operand.tmp 27, Go.Operand.tmp 30, Go.Operand.tmp 33, Go.Operand.tmp 35, Go.Operand.tmp 37], #[57, 3, 3, 3, 3]⟩, 63, "outright.go:50", #[⟨1, Go.Ground.data⟩, ⟨4, Go.Ground.data⟩, ⟨7, Go.Ground.data⟩, ⟨9, Go.Ground.data⟩, ⟨11, Go.Ground.data⟩, ⟨4, Go.Ground.chain⟩], none⟩) #[true, true, true, true, true, true, true, true, true, true, true, true, true, false, false, false, false, true, false, false, false] rfl rfl (by kernel_rfl) (by decide) (fun K hK => ?_)
    rw [if_pos (by rfl)]
    go_simp
    (go_at_call 34; (with_reducible refine (HGr.out _ hHeld.2.2).mono ?_); rintro e6 W9 ⟨m1, rfl, hm1, hX6, hV6⟩; have HM1 := Lib.hid hm1; clear hm1; (try have HZ := Lib.hid (HZ.out.o hV6)))
    refine hK.out _ _ (⟨hHeld.1.o hV6, hHeld.2.1.o hV6, hX6⟩) (fun hHeld => ?_)
    clear hK K
    try simp only [Act.put, List.setIfInBounds_toArray, List.set_cons_zero, List.set_cons_succ]
    refine pure_ (i := 13) (N := some 25) (v := ?_) (a' := ?_) #[true, true, true, true, true, true, true, true, true, true, true, true, true, true, false, false, false, true, false, false, false] rfl rfl (by kernel_rfl) (fun _ _ _ h => h) (Or.inl ⟨by rfl, ?_⟩) ?_ ?_
    rotate_left
    · intro w'
      go_simp
      (try with_reducible rfl)
    rotate_left
    · simp only [Act.put, List.setIfInBounds_toArray, List.set_cons_zero, List.set_cons_succ]
      rfl
    refine pure_ (i := 14) (N := some 39) (v := ?_) (a' := ?_) #[true, true, true, true, true, true, true, true, true, true, true, true, true, true, true, false, false, true, false, false, false] rfl rfl (by kernel_rfl) (fun _ _ _ h => h) (Or.inl ⟨by rfl, ?_⟩) ?_ ?_
    rotate_left
    · intro w'
      go_simp
      (try with_reducible rfl)
    rotate_left
    · simp only [Act.put, List.setIfInBounds_toArray, List.set_cons_zero, List.set_cons_succ]
      rfl
    refine pure_ (i := 15) (N := some 40) (v := ?_) (a' := ?_) #[true, true, true, true, true, true, true, true, true, true, true, true, true, true, true, true, false, true, false, false, false] rfl rfl (by kernel_rfl) (fun _ _ _ h => h) (Or.inl ⟨by rfl, ?_⟩) ?_ ?_
    rotate_left
    · intro w'
      go_simp
      (try with_reducible rfl)
    rotate_left
    · simp only [Act.put, List.setIfInBounds_toArray, List.set_cons_zero, List.set_cons_succ]
      rfl
    refine pure_ (i := 16) (N := some 41) (v := ?_) (a' := ?_) #[true, true, true, true, true, true, true, true, true, true, true, true, true, true, true, true, true, true, false, false, false] rfl rfl (by kernel_rfl) (fun _ _ _ h => h) (Or.inl ⟨by rfl, ?_⟩) ?_ ?_
    rotate_left
    · intro w'
      go_simp
      (try with_reducible rfl)
    rotate_left
    · simp only [Act.put, List.setIfInBounds_toArray, List.set_cons_zero, List.set_cons_succ]
      rfl
    refine last_ (i := 18) (N := none) (oi := ⟨none, Go.Op.store 57 (Go.Operand.tmp 6) (Go.Operand.tmp 39), 0, "outright.go:50", #[⟨17, Go.Ground.data⟩, ⟨14, Go.Ground.data⟩, ⟨12, Go.Ground.chain⟩, ⟨0, Go.Ground.phase⟩, ⟨1, Go.Ground.phase⟩, ⟨2, Go.Ground.phase⟩, ⟨3, Go.Ground.phase⟩, ⟨4, Go.Ground.phase⟩, ⟨5, Go.Ground.phase⟩, ⟨6, Go.Ground.phase⟩, ⟨7, Go.Ground.phase⟩, ⟨8, Go.Ground.phase⟩, ⟨9, Go.Ground.phase⟩, ⟨10, Go.Ground.phase⟩, ⟨11, Go.Ground.phase⟩, ⟨12, Go.Ground.phase⟩, ⟨13, Go.Ground.phase⟩, ⟨14, Go.Ground.phase⟩, { on := 15, ground := Go.Ground.textOnly Go.Departure.lateStores }, { on := 16, ground := Go.Ground.textOnly Go.Departure.lateStores }, ⟨17, Go.Ground.phase⟩], none⟩) #[true, true, true, true, true, true, true, true, true, true, true, true, true, true, true, true, true, true, true, false, false] rfl rfl (by kernel_rfl) (by decide) (fun K hK => ?_)
    refine step_store_part _ (by rfl) rfl (.tmp 6) (.tmp 39) 57 rfl h 0 ((sC (grantL x.s (x.c.N 0) term mm.place (mm.holder : Int)).1 m1)) rfl rfl size57 rfl 57 _ HZ.out (Nat.le_refl _) ((sC (grantL x.s (x.c.N 0) term mm.place (mm.holder : Int)).1 m1)) rfl ?_
    intro w7 hb7 hfr
    have HY7 := Lib.hid hb7
    have HQ7 := Lib.hid (hHeld.2.1.away hfr hneq)
    have HE7 := Lib.hid ((HE.out.o hHeld.2.2).away HZ.out (by decide) (Nat.le_trans HS3.out hge) hne hfr)
    have HR7 := Lib.hid ((HR.out.o hHeld.2.2).away hfr (Nat.ne_of_lt (Nat.lt_of_lt_of_le HR.out.lt hge)))
    have HM1 := Lib.hid (mapIs_far HM1.out HZ.out hfr)
    have q1 : w7.cell? ⟨q, 1, none⟩ = some (.int .i64 (mm.holder : Int)) := HQ7.out.cell 1
    clear hb7 hfr hHeld
    refine hK.out _ _ ?_
    clear hK K
    try simp only [Act.put, List.setIfInBounds_toArray, List.set_cons_zero, List.set_cons_succ]
    refine pure_ (i := 19) (N := some 7) (v := ?_) (a' := ?_) #[true, true, true, true, true, true, true, true, true, true, true, true, true, true, true, true, true, true, true, true, false] rfl rfl (by kernel_rfl) (fun _ _ _ h => h) (Or.inl ⟨by rfl, ?_⟩) ?_ ?_
    rotate_left
    · intro w'
      go_simp
      (try with_reducible rfl)
    rotate_left
    · simp only [Act.put, List.setIfInBounds_toArray, List.set_cons_zero, List.set_cons_succ]
      rfl
    refine pure_ (i := 20) (N := some 8) (v := ?_) (a' := ?_) #[true, true, true, true, true, true, true, true, true, true, true, true, true, true, true, true, true, true, true, true, true] rfl rfl (by kernel_rfl) (fun _ _ _ h => h) (Or.inl ⟨by rfl, ?_⟩) ?_ ?_
    rotate_left
    · intro w'
      go_simp
      (try with_reducible rfl)
    rotate_left
    · simp only [Act.put, List.setIfInBounds_toArray, List.set_cons_zero, List.set_cons_succ]
      rfl
    refine done_ (by kernel_rfl) ?_
  rotate_left 1
  exact AllReadyL.nil
  all_goals
    go_wp2_with (first
        | ((with_reducible refine gate_dst (N := 42) rfl ?_); refine wpList_load_part _ rfl (.tmp 6) 57 rfl h 0 (sC (grantL x.s (x.c.N 0) term mm.place (mm.holder : Int)).1 m1) rfl agg57 size57 57 _ HY7.out (fun j u hj => (by rw [Nat.zero_add]; simpa using hj)) ?_)
        | (refine wpList_store_part _ rfl (.tmp 43) (.tmp 42) 57 rfl g 1 (sC (grantL x.s (x.c.N 0) term mm.place (mm.holder : Int)).1 m1) rfl rfl size57 rfl 109 _ HE7.out.blk (by show 4 ≤ 24; omega) (WC { x with s := (grantL x.s (x.c.N 0) term mm.place (mm.holder : Int)).1 } p m1 a b (.slice Aw x.way.length cw) term margin) (WC_setS (grantL x.s (x.c.N 0) term mm.place (mm.holder : Int)).1 m1) ?_; intro w8 hb8 hfr8; have HR8 := Lib.hid (HR7.out.away hfr8 hgr.symm); have HQ8 := Lib.hid (HQ7.out.away hfr8 hgq.symm); have HE8 := Lib.hid (HE7.out.withS HM1.out hb8 hfr8); have r1 : w8.cell? ⟨q, 1, none⟩ = some (.int .i64 (mm.holder : Int)) := HQ8.out.cell 1; have r2 : w8.cell? ⟨q, 2, none⟩ = some (.int .i64 mm.place) := HQ8.out.cell 2; have r3 : w8.cell? ⟨q, 3, none⟩ = some (.int .i64 mm.num) := HQ8.out.cell 3; clear hb8 hfr8 q1)
        | ((with_reducible refine gate_dst (N := 9) rfl ?_); refine box_event rfl (N := 9) rfl (cs := wC ⟨0, 0, 0, 0, 0⟩) (t := 141) ?hr ?_; (case hr => first | (go_simp; done) | (go_simp; rfl)); intro k hk W10 hbox hb; have HK10 := Lib.hid (show Blk W10 k 141 _ from hbox); have hkw : w8.heap.size ≤ k := (by rw [hk]; exact Nat.le_refl _); have hO10 := Lib.hid (Out.of hb); clear hk hbox hb)
        | ((refine wpList_store_part _ rfl (.tmp 9) (.tmp 51) 141 rfl k 0 (wC ⟨2, mm.holder, mm.place, mm.num, ne⟩) rfl rfl size141 rfl 141 _ HK10.out (Nat.le_refl _) (wC ⟨2, mm.holder, mm.place, mm.num, ne⟩) rfl ?_); intro w11 hb11 hfr11; have HK11 := Lib.hid hb11; have hO11 := Lib.hid (Out.far hO10.out hfr11 hkw); clear hb11 hfr11)
        | (refine list_store_one _ rfl (.tmp 54) (.const (.int .i64 3)) 3 rfl k 0 _ rfl rfl size3 rfl rfl 141 _ HK11.out (by show 1 ≤ 5; omega) (wC ⟨3, mm.holder, mm.place, mm.num, ne⟩) rfl ?_; intro w12 hb12 hfr12; have HK12 := Lib.hid hb12; have hO12 := Lib.hid (Out.far hO11.out hfr12 hkw); clear hb12 hfr12)
        | fail)
    have HEV := Lib.hid (HE8.out.o hO12.out)
    have HRV := Lib.hid (HR8.out.o hO12.out)
    have HKV : Hid (Blk w12 k 141 (wC ans)) := Lib.hid (by rw [HAns.out]; exact HK12.out)
    obtain ⟨V0, hV0⟩ : ∃ V0, V0 = w12 := ⟨_, rfl⟩
    rw [← hV0] at HEV HRV HKV ⊢
    clear hV0
    refine start_ (n := 9) (S := fun W' => Blk W' g 109 (WC { x with s := (grantL x.s (x.c.N 0) term mm.place (mm.holder : Int)).1 } p m1 a b (.slice Aw x.way.length cw) term margin) ∧ Blk W' k 141 (wC ans) ∧ Out V0 W') (ds := [8]) #[false, false, false, false, false, false, false, false, false] (by kernel_rfl) rfl rfl (⟨HEV.out.blk.drew, HKV.out.drew, (Only.refl _ _ _).drew⟩) (fun hHeld => ?_)
    refine pure_ (i := 1) (N := some 56) (v := ?_) (a' := ?_) #[false, true, false, false, false, false, false, false, false] rfl rfl (by kernel_rfl) (fun _ _ _ h => h) (Or.inl ⟨by rfl, ?_⟩) ?_ ?_
    rotate_left
    · intro w'
      go_simp
      (try with_reducible rfl)
    rotate_left
    · simp only [Act.put, List.setIfInBounds_toArray, List.set_cons_zero, List.set_cons_succ]
      rfl
    refine take_ (i := 2) (N := some 57) (v := ?_) (a' := ?_) #[false, true, true, false, false, false, false, false, false] rfl rfl (by kernel_rfl) (fun _ _ _ h => h) (Or.inl ⟨by rfl, ?_⟩) hHeld ?_ ?_
    rotate_left
    · intro w' s0
      obtain ⟨t1, t2, t3⟩ := s0
      have c0 : w'.cell? ⟨g, 20, none⟩ = some (.slice Aw x.way.length cw) := t1.cell 20
      go_simp
      (try with_reducible rfl)
    rotate_left
    · simp only [Act.put, List.setIfInBounds_toArray, List.set_cons_zero, List.set_cons_succ]
      rfl
    refine take_ (i := 4) (N := some 59) (v := ?_) (a' := ?_) #[false, true, true, false, true, false, false, false, false] rfl rfl (by kernel_rfl) (fun _ _ _ h => h) (Or.inl ⟨by rfl, ?_⟩) hHeld ?_ ?_
    rotate_left
    · intro w' s0
      obtain ⟨t1, t2, t3⟩ := s0
      refine exec_load_part _ (.tmp 9) 141 ?_ k 0 (wC ans) ?_ agg141 size141 141 _ t2 ?_
      · rfl
      · (first | rfl | (simp [Act.eval]))
      · exact (fun j u hj => (by rw [Nat.zero_add]; simpa using hj))
    rotate_left
    · simp only [Act.put, List.setIfInBounds_toArray, List.set_cons_zero, List.set_cons_succ]
      rfl
    refine wpAnyLast_ready (rs := [0, 5]) (by kernel_rfl) (by simp) ?_
    refine AllReadyL.cons (o := ⟨some 55, Go.Op.buildSlice 107 0 #[], 107, "outright.go:56", #[], none⟩) rfl (by decide) (fun K hK => ?_) ?_
    focus
      refine step_lit0 (by rfl) rfl ?_
      intro g0 hg0 W7 hR0 hO
      have H0 := Lib.hid (Kd.R_lower hR0 hHeld.2.2.size)
      (try have hne05 := (show g5 ≠ g0 by rw [hg0]; exact Nat.ne_of_lt (KW_lt H5.out _ rfl)))
      (try have H5 := Lib.hid (KW_below H5.out hO))
      clear hR0 hg0
      refine hK.out _ _ (⟨hHeld.1.o hO, hHeld.2.1.o hO, hHeld.2.2.thens hO⟩) (fun hHeld => ?_)
      clear hK K
      try simp only [Act.put, List.setIfInBounds_toArray, List.set_cons_zero, List.set_cons_succ]
      refine wpAnyLast_ready (rs := [3, 5]) (by kernel_rfl) (by simp) ?_
      refine AllReadyL.cons (o := ⟨some 58, Go.Op.call ⟨Go.Callee.builtin Go.Builtin.append, #[Go.Operand.tmp 55, Go.Operand.tmp 57], #[107, 107]⟩, 107, "outright.go:56", #[⟨0, Go.Ground.data⟩, ⟨2, Go.Ground.data⟩], none⟩) rfl (by decide) (fun K hK => ?_) ?_
      focus
        refine step_app (V0 := V0) (by rfl) (.tmp 55) (.tmp 57) rfl _ [] x.way x.way rfl Aw x.way.length cw rfl rfl H0.out (KW_C (KW_below HEV.out.wd.way hHeld.2.2)).2.2 hHeld.2.2 (by have := HWl.out; simp; omega) ?_
        intro A1 c1 w1 hR1 hO1 hg1
        have H3 := Lib.hid hR1
        (try have H5 := Lib.hid (KW_keep H5.out hg1 (fun k hk hk2 => hne05 (Option.some.inj (hk.trans hk2.symm)))))
        clear hR1 hg1
        refine hK.out _ _ (⟨HEV.out.blk.o hO1, HKV.out.o hO1, hO1⟩) (fun hHeld => ?_)
        clear hK K
        try simp only [Act.put, List.setIfInBounds_toArray, List.set_cons_zero, List.set_cons_succ]
        refine one_ (i := 5) (N := some 60) (oi := ⟨some 60, Go.Op.buildSlice 107 1 #[(0, Go.Operand.tmp 59)], 107, "outright.go:56", #[⟨4, Go.Ground.data⟩], none⟩) #[true, true, true, true, true, true, false, false, false] rfl rfl (by kernel_rfl) (by decide) (fun K hK => ?_)
        refine step_lit1 (by rfl) (.tmp 59) ans rfl rfl ?_
        intro g5 hg5 W7 hR5 hO
        have H5 := Lib.hid (Kd.R_lower hR5 hHeld.2.2.size)
        (try have hne05 := (show g5 ≠ g0 by rw [hg5]; exact Nat.ne_of_gt (KW_lt H0.out _ rfl)))
        (try have H0 := Lib.hid (KW_below H0.out hO))
        (try have H3 := Lib.hid (KW_below H3.out hO))
        clear hR5 hg5
        refine hK.out _ _ (⟨hHeld.1.o hO, hHeld.2.1.o hO, hHeld.2.2.thens hO⟩) (fun hHeld => ?_)
        clear hK K
        try simp only [Act.put, List.setIfInBounds_toArray, List.set_cons_zero, List.set_cons_succ]
        refine one_ (i := 6) (N := some 61) (oi := ⟨some 61, Go.Op.call ⟨Go.Callee.builtin Go.Builtin.append, #[Go.Operand.tmp 58, Go.Operand.tmp 60], #[107, 107]⟩, 107, "outright.go:56", #[⟨3, Go.Ground.data⟩, ⟨5, Go.Ground.data⟩, ⟨3, Go.Ground.chain⟩], none⟩) #[true, true, true, true, true, true, true, false, false] rfl rfl (by kernel_rfl) (by decide) (fun K hK => ?_)
        refine step_app (V0 := V0) (by rfl) (.tmp 58) (.tmp 60) rfl _ x.way [ans] (x.way ++ [ans]) rfl (some ⟨g5, 0, none⟩) 1 1 rfl rfl H3.out (KW_C H5.out).2.2 hHeld.2.2 (by have := HWl.out; omega) ?_
        intro A2 c2 w2 hR2 hO2 hg2
        have H6 := Lib.hid hR2
        clear hR2 hg2
        refine hK.out _ _ (⟨HEV.out.blk.o hO2, HKV.out.o hO2, hO2⟩) (fun hHeld => ?_)
        clear hK K
        try simp only [Act.put, List.setIfInBounds_toArray, List.set_cons_zero, List.set_cons_succ]
        refine pure_ (i := 7) (N := some 62) (v := ?_) (a' := ?_) #[true, true, true, true, true, true, true, true, false] rfl rfl (by kernel_rfl) (fun _ _ _ h => h) (Or.inl ⟨by rfl, ?_⟩) ?_ ?_
        rotate_left
        · intro w'
          go_simp
          (try with_reducible rfl)
        rotate_left
        · simp only [Act.put, List.setIfInBounds_toArray, List.set_cons_zero, List.set_cons_succ]
          rfl
        refine last_ (i := 8) (N := none) (oi := ⟨none, Go.Op.store 107 (Go.Operand.tmp 62) (Go.Operand.tmp 61), 0, "outright.go:56", #[⟨7, Go.Ground.data⟩, ⟨6, Go.Ground.data⟩, ⟨6, Go.Ground.chain⟩, ⟨0, Go.Ground.phase⟩, ⟨1, Go.Ground.phase⟩, ⟨2, Go.Ground.phase⟩, ⟨3, Go.Ground.phase⟩, ⟨4, Go.Ground.phase⟩, ⟨5, Go.Ground.phase⟩, ⟨6, Go.Ground.phase⟩], none⟩) #[true, true, true, true, true, true, true, true, true] rfl rfl (by kernel_rfl) (by decide) (fun K hK => ?_)
        refine step_store_one _ (by rfl) rfl (.tmp 62) (.tmp 61) 107 rfl g 20 (.slice A2 (x.way ++ [ans]).length c2) rfl rfl size107 rfl rfl 109 _ hHeld.1 (by show 21 ≤ 24; omega) (WC { x with s := (grantL x.s (x.c.N 0) term mm.place (mm.holder : Int)).1, way := x.way ++ [ans] } p m1 a b (.slice A2 (x.way ++ [ans]).length c2) term margin) rfl ?_
        intro w8 hb8 hfr8
        have HE8 := Lib.hid ((HEV.out.o hHeld.2.2).way2 (Kd.R_lower H6.out (Nat.le_trans HLow.out HEV.out.out.size)) hb8 hfr8)
        have HR8 := Lib.hid ((HRV.out.o hHeld.2.2).away hfr8 hgr.symm)
        clear hb8 hfr8 hHeld
        refine hK.out _ _ ?_
        clear hK K
        try simp only [Act.put, List.setIfInBounds_toArray, List.set_cons_zero, List.set_cons_succ]
        refine done_ (by kernel_rfl) ?_
      rotate_left 1
      refine AllReadyL.cons (o := ⟨some 60, Go.Op.buildSlice 107 1 #[(0, Go.Operand.tmp 59)], 107, "outright.go:56", #[⟨4, Go.Ground.data⟩], none⟩) rfl (by decide) (fun K hK => ?_) ?_
      focus
        refine step_lit1 (by rfl) (.tmp 59) ans rfl rfl ?_
        intro g5 hg5 W7 hR5 hO
        have H5 := Lib.hid (Kd.R_lower hR5 hHeld.2.2.size)
        (try have hne05 := (show g5 ≠ g0 by rw [hg5]; exact Nat.ne_of_gt (KW_lt H0.out _ rfl)))
        (try have H0 := Lib.hid (KW_below H0.out hO))
        (try have H3 := Lib.hid (KW_below H3.out hO))
        clear hR5 hg5
        refine hK.out _ _ (⟨hHeld.1.o hO, hHeld.2.1.o hO, hHeld.2.2.thens hO⟩) (fun hHeld => ?_)
        clear hK K
        try simp only [Act.put, List.setIfInBounds_toArray, List.set_cons_zero, List.set_cons_succ]
        refine one_ (i := 3) (N := some 58) (oi := ⟨some 58, Go.Op.call ⟨Go.Callee.builtin Go.Builtin.append, #[Go.Operand.tmp 55, Go.Operand.tmp 57], #[107, 107]⟩, 107, "outright.go:56", #[⟨0, Go.Ground.data⟩, ⟨2, Go.Ground.data⟩], none⟩) #[true, true, true, true, true, true, false, false, false] rfl rfl (by kernel_rfl) (by decide) (fun K hK => ?_)
        refine step_app (V0 := V0) (by rfl) (.tmp 55) (.tmp 57) rfl _ [] x.way x.way rfl Aw x.way.length cw rfl rfl H0.out (KW_C (KW_below HEV.out.wd.way hHeld.2.2)).2.2 hHeld.2.2 (by have := HWl.out; simp; omega) ?_
        intro A1 c1 w1 hR1 hO1 hg1
        have H3 := Lib.hid hR1
        (try have H5 := Lib.hid (KW_keep H5.out hg1 (fun k hk hk2 => hne05 (Option.some.inj (hk.trans hk2.symm)))))
        clear hR1 hg1
        refine hK.out _ _ (⟨HEV.out.blk.o hO1, HKV.out.o hO1, hO1⟩) (fun hHeld => ?_)
        clear hK K
        try simp only [Act.put, List.setIfInBounds_toArray, List.set_cons_zero, List.set_cons_succ]
        refine one_ (i := 6) (N := some 61) (oi := ⟨some 61, Go.Op.call ⟨Go.Callee.builtin Go.Builtin.append, #[Go.Operand.tmp 58, Go.Operand.tmp 60], #[107, 107]⟩, 107, "outright.go:56", #[⟨3, Go.Ground.data⟩, ⟨5, Go.Ground.data⟩, ⟨3, Go.Ground.chain⟩], none⟩) #[true, true, true, true, true, true, true, false, false] rfl rfl (by kernel_rfl) (by decide) (fun K hK => ?_)
        refine step_app (V0 := V0) (by rfl) (.tmp 58) (.tmp 60) rfl _ x.way [ans] (x.way ++ [ans]) rfl (some ⟨g5, 0, none⟩) 1 1 rfl rfl H3.out (KW_C H5.out).2.2 hHeld.2.2 (by have := HWl.out; omega) ?_
        intro A2 c2 w2 hR2 hO2 hg2
        have H6 := Lib.hid hR2
        clear hR2 hg2
        refine hK.out _ _ (⟨HEV.out.blk.o hO2, HKV.out.o hO2, hO2⟩) (fun hHeld => ?_)
        clear hK K
        try simp only [Act.put, List.setIfInBounds_toArray, List.set_cons_zero, List.set_cons_succ]
        refine pure_ (i := 7) (N := some 62) (v := ?_) (a' := ?_) #[true, true, true, true, true, true, true, true, false] rfl rfl (by kernel_rfl) (fun _ _ _ h => h) (Or.inl ⟨by rfl, ?_⟩) ?_ ?_
        rotate_left
        · intro w'
          go_simp
          (try with_reducible rfl)
        rotate_left
        · simp only [Act.put, List.setIfInBounds_toArray, List.set_cons_zero, List.set_cons_succ]
          rfl
        refine last_ (i := 8) (N := none) (oi := ⟨none, Go.Op.store 107 (Go.Operand.tmp 62) (Go.Operand.tmp 61), 0, "outright.go:56", #[⟨7, Go.Ground.data⟩, ⟨6, Go.Ground.data⟩, ⟨6, Go.Ground.chain⟩, ⟨0, Go.Ground.phase⟩, ⟨1, Go.Ground.phase⟩, ⟨2, Go.Ground.phase⟩, ⟨3, Go.Ground.phase⟩, ⟨4, Go.Ground.phase⟩, ⟨5, Go.Ground.phase⟩, ⟨6, Go.Ground.phase⟩], none⟩) #[true, true, true, true, true, true, true, true, true] rfl rfl (by kernel_rfl) (by decide) (fun K hK => ?_)
        refine step_store_one _ (by rfl) rfl (.tmp 62) (.tmp 61) 107 rfl g 20 (.slice A2 (x.way ++ [ans]).length c2) rfl rfl size107 rfl rfl 109 _ hHeld.1 (by show 21 ≤ 24; omega) (WC { x with s := (grantL x.s (x.c.N 0) term mm.place (mm.holder : Int)).1, way := x.way ++ [ans] } p m1 a b (.slice A2 (x.way ++ [ans]).length c2) term margin) rfl ?_
        intro w8 hb8 hfr8
        have HE8 := Lib.hid ((HEV.out.o hHeld.2.2).way2 (Kd.R_lower H6.out (Nat.le_trans HLow.out HEV.out.out.size)) hb8 hfr8)
        have HR8 := Lib.hid ((HRV.out.o hHeld.2.2).away hfr8 hgr.symm)
        clear hb8 hfr8 hHeld
        refine hK.out _ _ ?_
        clear hK K
        try simp only [Act.put, List.setIfInBounds_toArray, List.set_cons_zero, List.set_cons_succ]
        refine done_ (by kernel_rfl) ?_
      rotate_left 1
      exact AllReadyL.nil
    rotate_left 2
    refine AllReadyL.cons (o := ⟨some 60, Go.Op.buildSlice 107 1 #[(0, Go.Operand.tmp 59)], 107, "outright.go:56", #[⟨4, Go.Ground.data⟩], none⟩) rfl (by decide) (fun K hK => ?_) ?_
    focus
      refine step_lit1 (by rfl) (.tmp 59) ans rfl rfl ?_
      intro g5 hg5 W7 hR5 hO
      have H5 := Lib.hid (Kd.R_lower hR5 hHeld.2.2.size)
      (try have hne05 := (show g5 ≠ g0 by rw [hg5]; exact Nat.ne_of_gt (KW_lt H0.out _ rfl)))
      (try have H0 := Lib.hid (KW_below H0.out hO))
      (try have H3 := Lib.hid (KW_below H3.out hO))
      clear hR5 hg5
      refine hK.out _ _ (⟨hHeld.1.o hO, hHeld.2.1.o hO, hHeld.2.2.thens hO⟩) (fun hHeld => ?_)
      clear hK K
      try simp only [Act.put, List.setIfInBounds_toArray, List.set_cons_zero, List.set_cons_succ]
      refine one_ (i := 0) (N := some 55) (oi := ⟨some 55, Go.Op.buildSlice 107 0 #[], 107, "outright.go:56", #[], none⟩) #[true, true, true, false, true, true, false, false, false] rfl rfl (by kernel_rfl) (by decide) (fun K hK => ?_)
      refine step_lit0 (by rfl) rfl ?_
      intro g0 hg0 W7 hR0 hO
      have H0 := Lib.hid (Kd.R_lower hR0 hHeld.2.2.size)
      (try have hne05 := (show g5 ≠ g0 by rw [hg0]; exact Nat.ne_of_lt (KW_lt H5.out _ rfl)))
      (try have H5 := Lib.hid (KW_below H5.out hO))
      clear hR0 hg0
      refine hK.out _ _ (⟨hHeld.1.o hO, hHeld.2.1.o hO, hHeld.2.2.thens hO⟩) (fun hHeld => ?_)
      clear hK K
      try simp only [Act.put, List.setIfInBounds_toArray, List.set_cons_zero, List.set_cons_succ]
      refine one_ (i := 3) (N := some 58) (oi := ⟨some 58, Go.Op.call ⟨Go.Callee.builtin Go.Builtin.append, #[Go.Operand.tmp 55, Go.Operand.tmp 57], #[107, 107]⟩, 107, "outright.go:56", #[⟨0, Go.Ground.data⟩, ⟨2, Go.Ground.data⟩], none⟩) #[true, true, true, true, true, true, false, false, false] rfl rfl (by kernel_rfl) (by decide) (fun K hK => ?_)
      refine step_app (V0 := V0) (by rfl) (.tmp 55) (.tmp 57) rfl _ [] x.way x.way rfl Aw x.way.length cw rfl rfl H0.out (KW_C (KW_below HEV.out.wd.way hHeld.2.2)).2.2 hHeld.2.2 (by have := HWl.out; simp; omega) ?_
      intro A1 c1 w1 hR1 hO1 hg1
      have H3 := Lib.hid hR1
      (try have H5 := Lib.hid (KW_keep H5.out hg1 (fun k hk hk2 => hne05 (Option.some.inj (hk.trans hk2.symm)))))
      clear hR1 hg1
      refine hK.out _ _ (⟨HEV.out.blk.o hO1, HKV.out.o hO1, hO1⟩) (fun hHeld => ?_)
      clear hK K
      try simp only [Act.put, List.setIfInBounds_toArray, List.set_cons_zero, List.set_cons_succ]
      refine one_ (i := 6) (N := some 61) (oi := ⟨some 61, Go.Op.call ⟨Go.Callee.builtin Go.Builtin.append, #[Go.Operand.tmp 58, Go.Operand.tmp 60], #[107, 107]⟩, 107, "outright.go:56", #[⟨3, Go.Ground.data⟩, ⟨5, Go.Ground.data⟩, ⟨3, Go.Ground.chain⟩], none⟩) #[true, true, true, true, true, true, true, false, false] rfl rfl (by kernel_rfl) (by decide) (fun K hK => ?_)
      refine step_app (V0 := V0) (by rfl) (.tmp 58) (.tmp 60) rfl _ x.way [ans] (x.way ++ [ans]) rfl (some ⟨g5, 0, none⟩) 1 1 rfl rfl H3.out (KW_C H5.out).2.2 hHeld.2.2 (by have := HWl.out; omega) ?_
      intro A2 c2 w2 hR2 hO2 hg2
      have H6 := Lib.hid hR2
      clear hR2 hg2
      refine hK.out _ _ (⟨HEV.out.blk.o hO2, HKV.out.o hO2, hO2⟩) (fun hHeld => ?_)
      clear hK K
      try simp only [Act.put, List.setIfInBounds_toArray, List.set_cons_zero, List.set_cons_succ]
      refine pure_ (i := 7) (N := some 62) (v := ?_) (a' := ?_) #[true, true, true, true, true, true, true, true, false] rfl rfl (by kernel_rfl) (fun _ _ _ h => h) (Or.inl ⟨by rfl, ?_⟩) ?_ ?_
      rotate_left
      · intro w'
        go_simp
        (try with_reducible rfl)
      rotate_left
      · simp only [Act.put, List.setIfInBounds_toArray, List.set_cons_zero, List.set_cons_succ]
        rfl
      refine last_ (i := 8) (N := none) (oi := ⟨none, Go.Op.store 107 (Go.Operand.tmp 62) (Go.Operand.tmp 61), 0, "outright.go:56", #[⟨7, Go.Ground.data⟩, ⟨6, Go.Ground.data⟩, ⟨6, Go.Ground.chain⟩, ⟨0, Go.Ground.phase⟩, ⟨1, Go.Ground.phase⟩, ⟨2, Go.Ground.phase⟩, ⟨3, Go.Ground.phase⟩, ⟨4, Go.Ground.phase⟩, ⟨5, Go.Ground.phase⟩, ⟨6, Go.Ground.phase⟩], none⟩) #[true, true, true, true, true, true, true, true, true] rfl rfl (by kernel_rfl) (by decide) (fun K hK => ?_)
      refine step_store_one _ (by rfl) rfl (.tmp 62) (.tmp 61) 107 rfl g 20 (.slice A2 (x.way ++ [ans]).length c2) rfl rfl size107 rfl rfl 109 _ hHeld.1 (by show 21 ≤ 24; omega) (WC { x with s := (grantL x.s (x.c.N 0) term mm.place (mm.holder : Int)).1, way := x.way ++ [ans] } p m1 a b (.slice A2 (x.way ++ [ans]).length c2) term margin) rfl ?_
      intro w8 hb8 hfr8
      have HE8 := Lib.hid ((HEV.out.o hHeld.2.2).way2 (Kd.R_lower H6.out (Nat.le_trans HLow.out HEV.out.out.size)) hb8 hfr8)
      have HR8 := Lib.hid ((HRV.out.o hHeld.2.2).away hfr8 hgr.symm)
      clear hb8 hfr8 hHeld
      refine hK.out _ _ ?_
      clear hK K
      try simp only [Act.put, List.setIfInBounds_toArray, List.set_cons_zero, List.set_cons_succ]
      refine done_ (by kernel_rfl) ?_
    rotate_left 1
    exact AllReadyL.nil
    all_goals
      go_wp2_with (first
          | ((with_reducible refine gate_dst (N := 127) rfl ?_); refine wpList_load_part _ rfl (.tmp 2) 109 rfl g 0 (WC { x with s := (grantL x.s (x.c.N 0) term mm.place (mm.holder : Int)).1, way := x.way ++ [ans] } p m1 a b (.slice A2 (x.way ++ [ans]).length c2) term margin) rfl agg109 size109 109 _ HE8.out.blk (fun j u hj => (by rw [Nat.zero_add]; simpa using hj)) ?_)
          | (refine wpList_store_part _ rfl (.tmp 4) (.tmp 127) 109 rfl r 0 (WC { x with s := (grantL x.s (x.c.N 0) term mm.place (mm.holder : Int)).1, way := x.way ++ [ans] } p m1 a b (.slice A2 (x.way ++ [ans]).length c2) term margin) rfl rfl size109 HE8.out.wd.one 109 _ HR8.out (Nat.le_refl _) (WC { x with s := (grantL x.s (x.c.N 0) term mm.place (mm.holder : Int)).1, way := x.way ++ [ans] } p m1 a b (.slice A2 (x.way ++ [ans]).length c2) term margin) rfl ?_; intro w9 hb9 hfr9; have HR9 := Lib.hid hb9; have HE9 := Lib.hid (HE8.out.away HR8.out (by decide) hrw hgr hfr9); clear hb9 hfr9)
          | fail)
      exact bodyPost_ret (results_blk1 Try.results65 _ _ r (WC { x with s := (grantL x.s (x.c.N 0) term mm.place (mm.holder : Int)).1, way := x.way ++ [ans] } p m1 a b (.slice A2 (x.way ++ [ans]).length c2) term margin) rfl agg109 size109 HR9.out) rfl ⟨_, _, _, _, rfl, HE9.out.wd, HE9.out.out⟩
end Go.Proofs.Ytefllgpehhlkoaa.Mar
namespace Go.Proofs.Ytefllgpehhlkoaa.Mar
open Go.RowKit Go.Maps Go.Proofs.YtefllgpehhlkoaaW.PrintWords Go.Proofs.YtefllgpehhlkoaaW.PrintLast
set_option linter.unusedVariables false
set_option linter.unusedSimpArgs false

theorem come_any (w : World) (lo p : Nat) (x : MW) (mm : Word) (m : Option Nat) (a b : Nat → Option Nat) (v : Value) (term margin : Int) (hk : Wd2 w lo p x m a b v) (hh : 1 ≤ mm.holder ∧ mm.holder ≤ 3) (hp : (Lit.int .i64 mm.place).wf = true)
    (hep : -9223372036854775808 ≤ x.s.epoch) (hsz : (lasting x.s.hs (x.c.N 0)).length < 1000000) (hhas : ∀ j, (x.hs j).has.length < 1000000) (hwl : x.way.length ≤ 300) :
    Calls Try.prog 65 #[.agg (WC x p m a b v term margin), .agg (wC mm)] w (Hands w lo p (Go.Proofs.Ytefllgpehhlkoaa.come term margin x mm) term margin) := by
  by_cases h1 : mm.kind = 1
  · by_cases hok : (grantL x.s (x.c.N 0) term mm.place (mm.holder : Int)).2.2 = 0
    · have h := come1a w lo p x mm m a b v term margin hk hh hp h1 hep hsz hwl hok
      have e : Go.Proofs.Ytefllgpehhlkoaa.come term margin x mm = { x with s := (grantL x.s (x.c.N 0) term mm.place (mm.holder : Int)).1, way := x.way ++ [⟨2, mm.holder, mm.place, mm.num, (grantL x.s (x.c.N 0) term mm.place (mm.holder : Int)).2.1⟩] } := by
        unfold Go.Proofs.Ytefllgpehhlkoaa.come comeS comeH answer
        simp only [if_pos h1, if_neg (show ¬ mm.kind = 2 by omega), if_neg (show ¬ mm.kind = 3 by omega), if_pos hok]
      rw [e]
      exact h
    · have h := come1b w lo p x mm m a b v term margin hk hh hp h1 hep hsz hwl hok
      have e : Go.Proofs.Ytefllgpehhlkoaa.come term margin x mm = { x with s := (grantL x.s (x.c.N 0) term mm.place (mm.holder : Int)).1, way := x.way ++ [⟨3, mm.holder, mm.place, mm.num, (grantL x.s (x.c.N 0) term mm.place (mm.holder : Int)).2.1⟩] } := by
        unfold Go.Proofs.Ytefllgpehhlkoaa.come comeS comeH answer
        simp only [if_pos h1, if_neg (show ¬ mm.kind = 2 by omega), if_neg (show ¬ mm.kind = 3 by omega), if_neg hok]
      rw [e]
      exact h
  by_cases h2 : mm.kind = 2
  · have h := come2 w lo p x mm m a b v term margin hk hh hp h2 (hhas _)
    have e : Go.Proofs.Ytefllgpehhlkoaa.come term margin x mm = { x with hs := setH x.hs mm.holder (grantH (x.hs mm.holder) (x.c.N mm.holder) term margin mm.place mm.num mm.epoch).1 } := by
      unfold Go.Proofs.Ytefllgpehhlkoaa.come comeS comeH
      simp only [if_neg h1, if_pos h2, if_neg (show ¬ mm.kind = 4 by omega)]
    rw [e]
    exact h
  by_cases h3 : mm.kind = 3
  · have h := come3 w lo p x mm m a b v term margin hk hh hp h3
    have e : Go.Proofs.Ytefllgpehhlkoaa.come term margin x mm = { x with hs := setH x.hs mm.holder (denyH (x.hs mm.holder) mm.place mm.num).1 } := by
      unfold Go.Proofs.Ytefllgpehhlkoaa.come comeS comeH
      simp only [if_neg h1, if_neg h2, if_pos h3, if_neg (show ¬ mm.kind = 4 by omega)]
    rw [e]
    exact h
  by_cases h4 : mm.kind = 4
  · have h := come4 w lo p x mm m a b v term margin hk hh hp h4
    have e : Go.Proofs.Ytefllgpehhlkoaa.come term margin x mm = { x with s := (letL x.s (x.c.N 0) mm.place (mm.holder : Int) mm.epoch).1 } := by
      unfold Go.Proofs.Ytefllgpehhlkoaa.come comeS comeH
      simp only [if_neg h1, if_neg h2, if_neg h3, if_pos h4]
    rw [e]
    exact h
  · have h := come0 w lo p x mm m a b v term margin hk hh hp h1 h2 h3 h4
    have e : Go.Proofs.Ytefllgpehhlkoaa.come term margin x mm = x := by
      unfold Go.Proofs.Ytefllgpehhlkoaa.come comeS comeH
      simp only [if_neg h1, if_neg h2, if_neg h3, if_neg h4]
    rw [e]
    exact h
set_option maxRecDepth 100000 in
set_option maxHeartbeats 16000000 in
theorem next6 (w : World) (lo p : Nat) (x : MW) (kind i place : Int) (j : Nat) (pl : Int) (m : Option Nat) (a b : Nat → Option Nat) (v : Value) (term margin : Int) (hk : Wd2 w lo p x m a b v) (hj : 1 ≤ j ∧ j ≤ 3 ∧ i % 3 = (j : Int) - 1) (hpl : place % 2 = pl) (hp : (Lit.int .i64 pl).wf = true) (hwl : x.way.length ≤ 300) (hkd : kind = 6) :
    Calls Try.prog 51 #[.agg (WC x p m a b v term margin), .agg (mC kind i place)] w (HandsT w lo p { x with hs := setH x.hs j ⟨nextLife (x.hs j).life, 0, [], []⟩ } term margin) := by
  obtain ⟨Aw, cw, rfl⟩ := Kd.R_slice hk.way
  obtain ⟨hj1, hj3, hj0⟩ := hj
  have HKW := Lib.hid hk
  have HKP := Lib.hid hp
  have HWl := Lib.hid hwl
  have HLow := Lib.hid hk.full
  have hj4 : j < 4 := by omega
  have hjI : (j : Int) < 4 := by omega
  have hjn : ¬ (j : Int) < 0 := by omega
  obtain ⟨j0, hj00⟩ : ∃ j0 : Nat, j = j0 + 1 := ⟨j - 1, by omega⟩
  have HA3 : Hid (∀ V, Calls Try.prog 64 #[.int .i64 i, .int .i64 3] V fun e w' => e = .returned (.int .i64 (j0 : Int)) ∧ V = w') := Lib.hid (fun V => by
    have h := at_any V i 3 (by omega) (by omega)
    rw [hj0, show (j : Int) - 1 = (j0 : Int) by omega] at h
    exact h)
  have HA2 : Hid (∀ V, Calls Try.prog 64 #[.int .i64 place, .int .i64 2] V fun e w' => e = .returned (.int .i64 pl) ∧ V = w') := Lib.hid (fun V => by
    have h := at_any V place 2 (by omega) (by omega)
    rw [hpl] at h
    exact h)
  have hjj : (1 : Int) + (j0 : Int) = (j : Int) := by omega
  have hu41 := Try.underlying41
  have hu57 := Try.underlying57
  have hu106 := Try.underlying106
  have hu107 := Try.underlying107
  have hu141 := Try.underlying141
  have hfit : 4 + j * 4 + (hC (x.hs j) (a j) (b j)).size ≤ (WC x p m a b (.slice Aw x.way.length cw) term margin).size := (by show 4 + j * 4 + 4 ≤ 24; omega)
  have HCr : Hid (∀ X V, Out X V → Calls Try.prog 30 #[.agg (hC (x.hs j) (a j) (b j))] V fun e w' => e = .returned (.agg (hC ⟨nextLife (x.hs j).life, 0, [], []⟩ none none)) ∧ Out X w' ∧ Out V w') := Lib.hid (fun X V hX => crash_from hX (a j) (b j) (x.hs j).life (x.hs j).count)
  clear hk hp hj0 hj00 hpl hwl
  go_enter Try.func51, Try.ntmps51
  go_wp2_with (first
  | ((with_reducible refine gate_dst (N := 2) rfl ?_); refine box_event rfl (N := 2) rfl (cs := (WC x p m a b (.slice Aw x.way.length cw) term margin)) (t := 109) ?hr ?_; (case hr => first | (go_simp; done) | (go_simp; rfl)); intro g hg W1 hbox hb; have HE1 : Hid (Ed w W1 g lo p x m a b (.slice Aw x.way.length cw) term margin) := Lib.hid ⟨hbox, HKW.out.kept (Out.of hb), Out.of hb, (by rw [hg]; exact Nat.le_refl _), HLow.out⟩; clear hg hbox hb)
  | ((with_reducible refine gate_dst (N := 3) rfl ?_); refine box_event rfl (N := 3) rfl (cs := mC kind i place) (t := 114) ?hr ?_; (case hr => first | (go_simp; done) | (go_simp; rfl)); intro q hq W2 hbox hb; have HQ2 := Lib.hid (show Blk W2 q 114 (mC kind i place) from hbox); have HE2 := Lib.hid (HE1.out.o (Out.of hb)); have hgq : g ≠ q := (by rw [hq]; exact Nat.ne_of_lt HE1.out.blk.lt); clear hq hbox hb)
  | ((with_reducible refine gate_dst (N := 4) rfl ?_); refine box_event rfl (N := 4) rfl (cs := Z24) (t := 109) ?hr ?_; (case hr => first | (go_simp; done) | (go_simp; rfl)); intro r hr W3 hbox hb; have HR := Lib.hid (show Blk W3 r 109 Z24 from hbox); have HE := Lib.hid (HE2.out.o (Out.of hb)); have HQ := Lib.hid (HQ2.out.o (Out.of hb)); have hgr : g ≠ r := (by rw [hr]; exact Nat.ne_of_lt HE2.out.blk.lt); have hrw : w.heap.size ≤ r := (by rw [hr]; exact HE2.out.out.size); have HNow : Hid (∀ V, Out W3 V → Calls Try.prog 21 #[.pointer (some ⟨p, 0, none⟩), .int .i64 (j : Int)] V fun e w' => e = .returned (.int .i64 (x.c.N j)) ∧ V = w') := Lib.hid (fun V hX => now_some V lo (lo + 4) p 4 x.c (HE.out.wd.kept hX).clk j (by decide) hj4); have q0 : W3.cell? ⟨q, 0, none⟩ = some (.int .i64 kind) := HQ.out.cell 0; have q1 : W3.cell? ⟨q, 1, none⟩ = some (.int .i64 i) := HQ.out.cell 1; have q2 : W3.cell? ⟨q, 2, none⟩ = some (.int .i64 place) := HQ.out.cell 2; (try rw [hkd] at q0); have g20 : W3.cell? ⟨g, 20, none⟩ = some (.slice Aw x.way.length cw) := HE.out.blk.cell 20; clear hr hbox hb HE1 HE2 HQ2)
  | (go_at_call 64; (with_reducible refine (HA3.out _).mono ?_); rintro e5 W5 ⟨rfl, rfl⟩)
  | (go_at_call 64; (with_reducible refine (HA2.out _).mono ?_); rintro e5 W5 ⟨rfl, rfl⟩)
  | ((with_reducible refine gate_dst (N := 160) rfl ?_); refine wpList_load_part _ rfl (.tmp 159) 41 rfl g (4 + j * 4) (hC (x.hs j) (a j) (b j)) (by simp [Act.eval]) agg41 size41 109 _ HE.out.blk (WC_h j hj4) ?_)
  | (go_at_call 30; (with_reducible refine (HCr.out _ _ (Only.refl _ _ W3)).mono ?_); rintro e6 W9 ⟨rfl, hX6, hV6⟩; have HE9 := Lib.hid (HE.out.o hX6); have HR9 := Lib.hid (HR.out.o hX6); clear hX6 hV6)
  | (refine wpList_store_part _ rfl (.tmp 163) (.tmp 161) 41 rfl g (4 + j * 4) (hC ⟨nextLife (x.hs j).life, 0, [], []⟩ none none) (by simp [Act.eval]) rfl size41 rfl 109 _ HE9.out.blk hfit (WC { x with hs := setH x.hs j ⟨nextLife (x.hs j).life, 0, [], []⟩ } p m (updN a j none) (updN b j none) (.slice Aw x.way.length cw) term margin) (WC_setH j hj4 ⟨nextLife (x.hs j).life, 0, [], []⟩ none none) ?_; intro w8 hbz hfz; have HR8 := Lib.hid (HR9.out.away hfz hgr.symm); have HE8 := Lib.hid (HE9.out.withH j (h := ⟨nextLife (x.hs j).life, 0, [], []⟩) (n1 := none) (n2 := none) rfl rfl hbz hfz); clear hbz hfz)
  | ((with_reducible refine gate_dst (N := 177) rfl ?_); refine wpList_load_part _ rfl (.tmp 2) 109 rfl g 0 (WC { x with hs := setH x.hs j ⟨nextLife (x.hs j).life, 0, [], []⟩ } p m (updN a j none) (updN b j none) (.slice Aw x.way.length cw) term margin) rfl agg109 size109 109 _ HE8.out.blk (fun k u hu => (by rw [Nat.zero_add]; simpa using hu)) ?_)
  | (refine wpList_store_part _ rfl (.tmp 4) (.tmp 177) 109 rfl r 0 (WC { x with hs := setH x.hs j ⟨nextLife (x.hs j).life, 0, [], []⟩ } p m (updN a j none) (updN b j none) (.slice Aw x.way.length cw) term margin) rfl rfl size109 HE8.out.wd.one 109 _ HR8.out (Nat.le_refl _) (WC { x with hs := setH x.hs j ⟨nextLife (x.hs j).life, 0, [], []⟩ } p m (updN a j none) (updN b j none) (.slice Aw x.way.length cw) term margin) rfl ?_; intro w9 hbz hfz; have HR9 := Lib.hid hbz; have HE9 := Lib.hid (HE8.out.away HR8.out (by decide) hrw hgr hfz); clear hbz hfz)
  | fail)
  exact bodyPost_ret (results_blk1 Try.results51 _ _ r (WC { x with hs := setH x.hs j ⟨nextLife (x.hs j).life, 0, [], []⟩ } p m (updN a j none) (updN b j none) (.slice Aw x.way.length cw) term margin) rfl agg109 size109 HR9.out) rfl ⟨_, _, _, _, rfl, HE9.out.wd, Out.wide HE9.out.out⟩
set_option maxRecDepth 100000 in
set_option maxHeartbeats 16000000 in
theorem next9 (w : World) (lo p : Nat) (x : MW) (kind i place : Int) (j : Nat) (pl : Int) (m : Option Nat) (a b : Nat → Option Nat) (v : Value) (term margin : Int) (hk : Wd2 w lo p x m a b v) (hj : 1 ≤ j ∧ j ≤ 3 ∧ i % 3 = (j : Int) - 1) (hpl : place % 2 = pl) (hp : (Lit.int .i64 pl).wf = true) (hwl : x.way.length ≤ 300) (h0 : kind ≠ 0) (h1 : kind ≠ 1) (h2 : kind ≠ 2) (h3 : kind ≠ 3) (h4 : kind ≠ 4) (h5 : kind ≠ 5) (h6 : kind ≠ 6) (h7 : kind ≠ 7) :
    Calls Try.prog 51 #[.agg (WC x p m a b v term margin), .agg (mC kind i place)] w (HandsT w lo p x term margin) := by
  obtain ⟨Aw, cw, rfl⟩ := Kd.R_slice hk.way
  obtain ⟨hj1, hj3, hj0⟩ := hj
  have HKW := Lib.hid hk
  have HKP := Lib.hid hp
  have HWl := Lib.hid hwl
  have HLow := Lib.hid hk.full
  have hj4 : j < 4 := by omega
  have hjI : (j : Int) < 4 := by omega
  have hjn : ¬ (j : Int) < 0 := by omega
  obtain ⟨j0, hj00⟩ : ∃ j0 : Nat, j = j0 + 1 := ⟨j - 1, by omega⟩
  have HA3 : Hid (∀ V, Calls Try.prog 64 #[.int .i64 i, .int .i64 3] V fun e w' => e = .returned (.int .i64 (j0 : Int)) ∧ V = w') := Lib.hid (fun V => by
    have h := at_any V i 3 (by omega) (by omega)
    rw [hj0, show (j : Int) - 1 = (j0 : Int) by omega] at h
    exact h)
  have HA2 : Hid (∀ V, Calls Try.prog 64 #[.int .i64 place, .int .i64 2] V fun e w' => e = .returned (.int .i64 pl) ∧ V = w') := Lib.hid (fun V => by
    have h := at_any V place 2 (by omega) (by omega)
    rw [hpl] at h
    exact h)
  have hjj : (1 : Int) + (j0 : Int) = (j : Int) := by omega
  have hu41 := Try.underlying41
  have hu57 := Try.underlying57
  have hu106 := Try.underlying106
  have hu107 := Try.underlying107
  have hu141 := Try.underlying141
  have k0 : (kind == 0) = false := beq_eq_false_iff_ne.2 h0
  have k1 : (kind == 1) = false := beq_eq_false_iff_ne.2 h1
  have k2 : (kind == 2) = false := beq_eq_false_iff_ne.2 h2
  have k3 : (kind == 3) = false := beq_eq_false_iff_ne.2 h3
  have k4 : (kind == 4) = false := beq_eq_false_iff_ne.2 h4
  have k5 : (kind == 5) = false := beq_eq_false_iff_ne.2 h5
  have k6 : (kind == 6) = false := beq_eq_false_iff_ne.2 h6
  have k7 : (kind == 7) = false := beq_eq_false_iff_ne.2 h7
  clear hk hp hj0 hj00 hpl hwl
  go_enter Try.func51, Try.ntmps51
  go_wp2_with (first
  | ((with_reducible refine gate_dst (N := 2) rfl ?_); refine box_event rfl (N := 2) rfl (cs := (WC x p m a b (.slice Aw x.way.length cw) term margin)) (t := 109) ?hr ?_; (case hr => first | (go_simp; done) | (go_simp; rfl)); intro g hg W1 hbox hb; have HE1 : Hid (Ed w W1 g lo p x m a b (.slice Aw x.way.length cw) term margin) := Lib.hid ⟨hbox, HKW.out.kept (Out.of hb), Out.of hb, (by rw [hg]; exact Nat.le_refl _), HLow.out⟩; clear hg hbox hb)
  | ((with_reducible refine gate_dst (N := 3) rfl ?_); refine box_event rfl (N := 3) rfl (cs := mC kind i place) (t := 114) ?hr ?_; (case hr => first | (go_simp; done) | (go_simp; rfl)); intro q hq W2 hbox hb; have HQ2 := Lib.hid (show Blk W2 q 114 (mC kind i place) from hbox); have HE2 := Lib.hid (HE1.out.o (Out.of hb)); have hgq : g ≠ q := (by rw [hq]; exact Nat.ne_of_lt HE1.out.blk.lt); clear hq hbox hb)
  | ((with_reducible refine gate_dst (N := 4) rfl ?_); refine box_event rfl (N := 4) rfl (cs := Z24) (t := 109) ?hr ?_; (case hr => first | (go_simp; done) | (go_simp; rfl)); intro r hr W3 hbox hb; have HR := Lib.hid (show Blk W3 r 109 Z24 from hbox); have HE := Lib.hid (HE2.out.o (Out.of hb)); have HQ := Lib.hid (HQ2.out.o (Out.of hb)); have hgr : g ≠ r := (by rw [hr]; exact Nat.ne_of_lt HE2.out.blk.lt); have hrw : w.heap.size ≤ r := (by rw [hr]; exact HE2.out.out.size); have HNow : Hid (∀ V, Out W3 V → Calls Try.prog 21 #[.pointer (some ⟨p, 0, none⟩), .int .i64 (j : Int)] V fun e w' => e = .returned (.int .i64 (x.c.N j)) ∧ V = w') := Lib.hid (fun V hX => now_some V lo (lo + 4) p 4 x.c (HE.out.wd.kept hX).clk j (by decide) hj4); have q0 : W3.cell? ⟨q, 0, none⟩ = some (.int .i64 kind) := HQ.out.cell 0; have q1 : W3.cell? ⟨q, 1, none⟩ = some (.int .i64 i) := HQ.out.cell 1; have q2 : W3.cell? ⟨q, 2, none⟩ = some (.int .i64 place) := HQ.out.cell 2; (try rw [hkd] at q0); have g20 : W3.cell? ⟨g, 20, none⟩ = some (.slice Aw x.way.length cw) := HE.out.blk.cell 20; clear hr hbox hb HE1 HE2 HQ2)
  | (go_at_call 64; (with_reducible refine (HA3.out _).mono ?_); rintro e5 W5 ⟨rfl, rfl⟩)
  | (go_at_call 64; (with_reducible refine (HA2.out _).mono ?_); rintro e5 W5 ⟨rfl, rfl⟩)
  | ((with_reducible refine gate_dst (N := 177) rfl ?_); refine wpList_load_part _ rfl (.tmp 2) 109 rfl g 0 (WC x p m a b (.slice Aw x.way.length cw) term margin) rfl agg109 size109 109 _ HE.out.blk (fun k u hu => (by rw [Nat.zero_add]; simpa using hu)) ?_)
  | (refine wpList_store_part _ rfl (.tmp 4) (.tmp 177) 109 rfl r 0 (WC x p m a b (.slice Aw x.way.length cw) term margin) rfl rfl size109 HE.out.wd.one 109 _ HR.out (Nat.le_refl _) (WC x p m a b (.slice Aw x.way.length cw) term margin) rfl ?_; intro w9 hbz hfz; have HR9 := Lib.hid hbz; have HE9 := Lib.hid (HE.out.away HR.out (by decide) hrw hgr hfz); clear hbz hfz)
  | fail)
  exact bodyPost_ret (results_blk1 Try.results51 _ _ r (WC x p m a b (.slice Aw x.way.length cw) term margin) rfl agg109 size109 HR9.out) rfl ⟨_, _, _, _, rfl, HE9.out.wd, Out.wide HE9.out.out⟩
set_option maxRecDepth 100000 in
set_option maxHeartbeats 16000000 in
theorem next7 (w : World) (lo p : Nat) (x : MW) (kind i place : Int) (j : Nat) (pl : Int) (m : Option Nat) (a b : Nat → Option Nat) (v : Value) (term margin : Int) (hk : Wd2 w lo p x m a b v) (hj : 1 ≤ j ∧ j ≤ 3 ∧ i % 3 = (j : Int) - 1) (hpl : place % 2 = pl) (hp : (Lit.int .i64 pl).wf = true) (hwl : x.way.length ≤ 300) (hkd : kind = 7) :
    Calls Try.prog 51 #[.agg (WC x p m a b v term margin), .agg (mC kind i place)] w (HandsT w lo p { x with s := ⟨x.s.epoch, quietL (x.c.N 0) term, []⟩, began := true } term margin) := by
  obtain ⟨Aw, cw, rfl⟩ := Kd.R_slice hk.way
  obtain ⟨hj1, hj3, hj0⟩ := hj
  have HKW := Lib.hid hk
  have HKP := Lib.hid hp
  have HWl := Lib.hid hwl
  have HLow := Lib.hid hk.full
  have hj4 : j < 4 := by omega
  have hjI : (j : Int) < 4 := by omega
  have hjn : ¬ (j : Int) < 0 := by omega
  obtain ⟨j0, hj00⟩ : ∃ j0 : Nat, j = j0 + 1 := ⟨j - 1, by omega⟩
  have HA3 : Hid (∀ V, Calls Try.prog 64 #[.int .i64 i, .int .i64 3] V fun e w' => e = .returned (.int .i64 (j0 : Int)) ∧ V = w') := Lib.hid (fun V => by
    have h := at_any V i 3 (by omega) (by omega)
    rw [hj0, show (j : Int) - 1 = (j0 : Int) by omega] at h
    exact h)
  have HA2 : Hid (∀ V, Calls Try.prog 64 #[.int .i64 place, .int .i64 2] V fun e w' => e = .returned (.int .i64 pl) ∧ V = w') := Lib.hid (fun V => by
    have h := at_any V place 2 (by omega) (by omega)
    rw [hpl] at h
    exact h)
  have hjj : (1 : Int) + (j0 : Int) = (j : Int) := by omega
  have hu41 := Try.underlying41
  have hu57 := Try.underlying57
  have hu106 := Try.underlying106
  have hu107 := Try.underlying107
  have hu141 := Try.underlying141
  clear hk hp hj0 hj00 hpl hwl
  go_enter Try.func51, Try.ntmps51
  go_wp2_with (first
  | ((with_reducible refine gate_dst (N := 2) rfl ?_); refine box_event rfl (N := 2) rfl (cs := (WC x p m a b (.slice Aw x.way.length cw) term margin)) (t := 109) ?hr ?_; (case hr => first | (go_simp; done) | (go_simp; rfl)); intro g hg W1 hbox hb; have HE1 : Hid (Ed w W1 g lo p x m a b (.slice Aw x.way.length cw) term margin) := Lib.hid ⟨hbox, HKW.out.kept (Out.of hb), Out.of hb, (by rw [hg]; exact Nat.le_refl _), HLow.out⟩; clear hg hbox hb)
  | ((with_reducible refine gate_dst (N := 3) rfl ?_); refine box_event rfl (N := 3) rfl (cs := mC kind i place) (t := 114) ?hr ?_; (case hr => first | (go_simp; done) | (go_simp; rfl)); intro q hq W2 hbox hb; have HQ2 := Lib.hid (show Blk W2 q 114 (mC kind i place) from hbox); have HE2 := Lib.hid (HE1.out.o (Out.of hb)); have hgq : g ≠ q := (by rw [hq]; exact Nat.ne_of_lt HE1.out.blk.lt); clear hq hbox hb)
  | ((with_reducible refine gate_dst (N := 4) rfl ?_); refine box_event rfl (N := 4) rfl (cs := Z24) (t := 109) ?hr ?_; (case hr => first | (go_simp; done) | (go_simp; rfl)); intro r hr W3 hbox hb; have HR := Lib.hid (show Blk W3 r 109 Z24 from hbox); have HE := Lib.hid (HE2.out.o (Out.of hb)); have HQ := Lib.hid (HQ2.out.o (Out.of hb)); have hgr : g ≠ r := (by rw [hr]; exact Nat.ne_of_lt HE2.out.blk.lt); have hrw : w.heap.size ≤ r := (by rw [hr]; exact HE2.out.out.size); have HNow : Hid (∀ V, Out W3 V → Calls Try.prog 21 #[.pointer (some ⟨p, 0, none⟩), .int .i64 (j : Int)] V fun e w' => e = .returned (.int .i64 (x.c.N j)) ∧ V = w') := Lib.hid (fun V hX => now_some V lo (lo + 4) p 4 x.c (HE.out.wd.kept hX).clk j (by decide) hj4); have q0 : W3.cell? ⟨q, 0, none⟩ = some (.int .i64 kind) := HQ.out.cell 0; have q1 : W3.cell? ⟨q, 1, none⟩ = some (.int .i64 i) := HQ.out.cell 1; have q2 : W3.cell? ⟨q, 2, none⟩ = some (.int .i64 place) := HQ.out.cell 2; (try rw [hkd] at q0); have g20 : W3.cell? ⟨g, 20, none⟩ = some (.slice Aw x.way.length cw) := HE.out.blk.cell 20; clear hr hbox hb HE1 HE2 HQ2)
  | (go_at_call 64; (with_reducible refine (HA3.out _).mono ?_); rintro e5 W5 ⟨rfl, rfl⟩)
  | (go_at_call 64; (with_reducible refine (HA2.out _).mono ?_); rintro e5 W5 ⟨rfl, rfl⟩)
  | fail)
  have HNow0 : Hid (∀ V, Out W3 V → Calls Try.prog 21 #[.pointer (some ⟨p, 0, none⟩), .int .i64 0] V fun e w' => e = .returned (.int .i64 (x.c.N 0)) ∧ V = w') := Lib.hid (fun V hX => now_some V lo (lo + 4) p 4 x.c (HE.out.wd.kept hX).clk 0 (by decide) (by omega))
  have HRs : Hid (∀ X V, Out X V → Calls Try.prog 33 #[.agg (sC x.s m), .int .i64 (x.c.N 0), .int .i64 term] V fun e w' => e = .returned (.agg (sC ⟨x.s.epoch, quietL (x.c.N 0) term, []⟩ none)) ∧ Out X w' ∧ Out V w') := Lib.hid (fun X V hX => restart_from hX m x.s.epoch x.s.quiet (x.c.N 0) term)
  refine start_ (n := 11) (S := fun W' => Blk W' g 109 (WC x p m a b (.slice Aw x.way.length cw) term margin) ∧ Blk W' q 114 (mC kind i place) ∧ Out W3 W') (ds := [10]) #[false, false, false, false, false, false, false, false, false, false, false] (by kernel_rfl) rfl rfl (⟨HE.out.blk.drew, HQ.out.drew, (Only.refl _ _ _).drew⟩) (fun hHeld => ?_)
  refine pure_ (i := 0) (N := some 166) (v := ?_) (a' := ?_) #[true, false, false, false, false, false, false, false, false, false, false] rfl rfl (by kernel_rfl) (fun _ _ _ h => h) (Or.inl ⟨by rfl, ?_⟩) ?_ ?_
  rotate_left
  · intro w'
    go_simp
    (try with_reducible rfl)
  rotate_left
  · simp only [Act.put, List.setIfInBounds_toArray, List.set_cons_zero, List.set_cons_succ]
    rfl
  refine pure_ (i := 2) (N := some 168) (v := ?_) (a' := ?_) #[true, false, true, false, false, false, false, false, false, false, false] rfl rfl (by kernel_rfl) (fun _ _ _ h => h) (Or.inl ⟨by rfl, ?_⟩) ?_ ?_
  rotate_left
  · intro w'
    go_simp
    (try with_reducible rfl)
  rotate_left
  · simp only [Act.put, List.setIfInBounds_toArray, List.set_cons_zero, List.set_cons_succ]
    rfl
  refine pure_ (i := 5) (N := some 171) (v := ?_) (a' := ?_) #[true, false, true, false, false, true, false, false, false, false, false] rfl rfl (by kernel_rfl) (fun _ _ _ h => h) (Or.inl ⟨by rfl, ?_⟩) ?_ ?_
  rotate_left
  · intro w'
    go_simp
    (try with_reducible rfl)
  rotate_left
  · simp only [Act.put, List.setIfInBounds_toArray, List.set_cons_zero, List.set_cons_succ]
    rfl
  refine pure_ (i := 6) (N := some 172) (v := ?_) (a' := ?_) #[true, false, true, false, false, true, true, false, false, false, false] rfl rfl (by kernel_rfl) (fun _ _ _ h => h) (Or.inl ⟨by rfl, ?_⟩) ?_ ?_
  rotate_left
  · intro w'
    go_simp
    (try with_reducible rfl)
  rotate_left
  · simp only [Act.put, List.setIfInBounds_toArray, List.set_cons_zero, List.set_cons_succ]
    rfl
  refine take_ (i := 1) (N := some 167) (v := ?_) (a' := ?_) #[true, true, true, false, false, true, true, false, false, false, false] rfl rfl (by kernel_rfl) (fun _ _ _ h => h) (Or.inl ⟨by rfl, ?_⟩) hHeld ?_ ?_
  rotate_left
  · intro w' s0
    obtain ⟨t1, t2, t3⟩ := s0
    refine exec_load_part _ (.tmp 166) 57 ?_ g 1 (sC x.s m) ?_ agg57 size57 109 _ t1 ?_
    · rfl
    · (first | rfl | (simp [Act.eval]))
    · exact WC_s
  rotate_left
  · simp only [Act.put, List.setIfInBounds_toArray, List.set_cons_zero, List.set_cons_succ]
    rfl
  refine take_ (i := 3) (N := some 169) (v := ?_) (a' := ?_) #[true, true, true, true, false, true, true, false, false, false, false] rfl rfl (by kernel_rfl) (fun _ _ _ h => h) (Or.inl ⟨by rfl, ?_⟩) hHeld ?_ ?_
  rotate_left
  · intro w' s0
    obtain ⟨t1, t2, t3⟩ := s0
    have c0 : w'.cell? ⟨g, 0, none⟩ = some (.pointer (some ⟨p, 0, none⟩)) := t1.cell 0
    go_simp
    (try with_reducible rfl)
  rotate_left
  · simp only [Act.put, List.setIfInBounds_toArray, List.set_cons_zero, List.set_cons_succ]
    rfl
  refine take_ (i := 7) (N := some 173) (v := ?_) (a' := ?_) #[true, true, true, true, false, true, true, true, false, false, false] rfl rfl (by kernel_rfl) (fun _ _ _ h => h) (Or.inl ⟨by rfl, ?_⟩) hHeld ?_ ?_
  rotate_left
  · intro w' s0
    obtain ⟨t1, t2, t3⟩ := s0
    have c0 : w'.cell? ⟨g, 21, none⟩ = some (.int .i64 term) := t1.cell 21
    go_simp
    (try with_reducible rfl)
  rotate_left
  · simp only [Act.put, List.setIfInBounds_toArray, List.set_cons_zero, List.set_cons_succ]
    rfl
  refine one_ (i := 4) (N := some 170) (oi := ⟨some 170, Go.Op.call ⟨Go.Callee.value (Go.Operand.func 21), #[Go.Operand.tmp 169, Go.Operand.const (Go.Value.int Go.IntKind.i64 0)], #[24, 3]⟩, 3, "outright.go:104", #[⟨3, Go.Ground.data⟩], none⟩) #[true, true, true, true, true, true, true, true, false, false, false] rfl rfl (by kernel_rfl) (by decide) (fun K hK => ?_)
  rw [if_pos (by rfl)]
  go_simp
  (go_at_call 21; (with_reducible refine (HNow0.out _ hHeld.2.2).mono ?_); rintro e5 W5 ⟨rfl, rfl⟩)
  refine hK.out _ _ (hHeld) (fun hHeld => ?_)
  clear hK K
  try simp only [Act.put, List.setIfInBounds_toArray, List.set_cons_zero, List.set_cons_succ]
  refine one_ (i := 8) (N := some 174) (oi := ⟨some 174, Go.Op.call ⟨Go.Callee.value (Go.Operand.func 33), #[Go.Operand.tmp 167, Go.Operand.tmp 170, Go.Operand.tmp 173], #[57, 3, 3]⟩, 57, "outright.go:104", #[⟨1, Go.Ground.data⟩, ⟨4, Go.Ground.data⟩, ⟨7, Go.Ground.data⟩, ⟨4, Go.Ground.chain⟩], none⟩) #[true, true, true, true, true, true, true, true, true, false, false] rfl rfl (by kernel_rfl) (by decide) (fun K hK => ?_)
  rw [if_pos (by rfl)]
  go_simp
  (go_at_call 33; (with_reducible refine (HRs.out _ _ hHeld.2.2).mono ?_); rintro e6 W9 ⟨rfl, hX6, hV6⟩)
  refine hK.out _ _ (⟨hHeld.1.o hV6, hHeld.2.1.o hV6, hX6⟩) (fun hHeld => ?_)
  clear hK K
  try simp only [Act.put, List.setIfInBounds_toArray, List.set_cons_zero, List.set_cons_succ]
  refine pure_ (i := 9) (N := some 175) (v := ?_) (a' := ?_) #[true, true, true, true, true, true, true, true, true, true, false] rfl rfl (by kernel_rfl) (fun _ _ _ h => h) (Or.inl ⟨by rfl, ?_⟩) ?_ ?_
  rotate_left
  · intro w'
    go_simp
    (try with_reducible rfl)
  rotate_left
  · simp only [Act.put, List.setIfInBounds_toArray, List.set_cons_zero, List.set_cons_succ]
    rfl
  refine last_ (i := 10) (N := none) (oi := ⟨none, Go.Op.store 57 (Go.Operand.tmp 175) (Go.Operand.tmp 174), 0, "outright.go:104", #[⟨9, Go.Ground.data⟩, ⟨8, Go.Ground.data⟩, ⟨8, Go.Ground.chain⟩, ⟨0, Go.Ground.phase⟩, ⟨1, Go.Ground.phase⟩, ⟨2, Go.Ground.phase⟩, ⟨3, Go.Ground.phase⟩, ⟨4, Go.Ground.phase⟩, ⟨5, Go.Ground.phase⟩, ⟨6, Go.Ground.phase⟩, ⟨7, Go.Ground.phase⟩, ⟨8, Go.Ground.phase⟩], none⟩) #[true, true, true, true, true, true, true, true, true, true, true] rfl rfl (by kernel_rfl) (by decide) (fun K hK => ?_)
  refine step_store_part _ (by rfl) rfl (.tmp 175) (.tmp 174) 57 rfl g 1 (sC ⟨x.s.epoch, quietL (x.c.N 0) term, []⟩ none) rfl rfl size57 rfl 109 _ hHeld.1 (by show 4 ≤ 24; omega) (WC { x with s := ⟨x.s.epoch, quietL (x.c.N 0) term, []⟩ } p none a b (.slice Aw x.way.length cw) term margin) (WC_setS ⟨x.s.epoch, quietL (x.c.N 0) term, []⟩ none) ?_
  intro w7 hb7 hfr
  have HE7 := Lib.hid ((HE.out.o hHeld.2.2).withS (s := ⟨x.s.epoch, quietL (x.c.N 0) term, []⟩) (m' := none) rfl hb7 hfr)
  have HR7 := Lib.hid ((HR.out.o hHeld.2.2).away hfr hgr.symm)
  clear hb7 hfr hHeld
  refine hK.out _ _ ?_
  clear hK K
  try simp only [Act.put, List.setIfInBounds_toArray, List.set_cons_zero, List.set_cons_succ]
  refine done_ (by kernel_rfl) ?_
  go_wp2_with (first
    | (refine list_store_one _ rfl (.tmp 176) (.const (.bool true)) 4 rfl g 23 (.bool true) rfl rfl size4 rfl rfl 109 _ HE7.out.blk (by show 24 ≤ 24; omega) (WC { x with s := ⟨x.s.epoch, quietL (x.c.N 0) term, []⟩, began := true } p none a b (.slice Aw x.way.length cw) term margin) rfl ?_; intro w8 hb8 hfr8; have HR8 := Lib.hid (HR7.out.away hfr8 hgr.symm); have HE8 := Lib.hid (HE7.out.began2 true hb8 hfr8); clear hb8 hfr8)
    | ((with_reducible refine gate_dst (N := 177) rfl ?_); refine wpList_load_part _ rfl (.tmp 2) 109 rfl g 0 (WC { x with s := ⟨x.s.epoch, quietL (x.c.N 0) term, []⟩, began := true } p none a b (.slice Aw x.way.length cw) term margin) rfl agg109 size109 109 _ HE8.out.blk (fun k u hu => (by rw [Nat.zero_add]; simpa using hu)) ?_)
    | (refine wpList_store_part _ rfl (.tmp 4) (.tmp 177) 109 rfl r 0 (WC { x with s := ⟨x.s.epoch, quietL (x.c.N 0) term, []⟩, began := true } p none a b (.slice Aw x.way.length cw) term margin) rfl rfl size109 HE8.out.wd.one 109 _ HR8.out (Nat.le_refl _) (WC { x with s := ⟨x.s.epoch, quietL (x.c.N 0) term, []⟩, began := true } p none a b (.slice Aw x.way.length cw) term margin) rfl ?_; intro w9 hbz hfz; have HR9 := Lib.hid hbz; have HE9 := Lib.hid (HE8.out.away HR8.out (by decide) hrw hgr hfz); clear hbz hfz)
    | fail)
  exact bodyPost_ret (results_blk1 Try.results51 _ _ r (WC { x with s := ⟨x.s.epoch, quietL (x.c.N 0) term, []⟩, began := true } p none a b (.slice Aw x.way.length cw) term margin) rfl agg109 size109 HR9.out) rfl ⟨_, _, _, _, rfl, HE9.out.wd, Out.wide HE9.out.out⟩
set_option maxRecDepth 100000 in
set_option maxHeartbeats 16000000 in
theorem next0 (w : World) (lo p : Nat) (x : MW) (kind i place : Int) (j : Nat) (pl : Int) (m : Option Nat) (a b : Nat → Option Nat) (v : Value) (term margin : Int) (hk : Wd2 w lo p x m a b v) (hj : 1 ≤ j ∧ j ≤ 3 ∧ i % 3 = (j : Int) - 1) (hpl : place % 2 = pl) (hp : (Lit.int .i64 pl).wf = true) (hwl : x.way.length ≤ 300) (hkd : kind = 0) (i4 K : Nat) (hi4 : i % 4 = (i4 : Int)) (hbd : x.c.Bd K) (hK9 : K ≤ 1000000000) :
    Calls Try.prog 51 #[.agg (WC x p m a b v term margin), .agg (mC kind i place)] w (HandsT w lo p { x with c := x.c.tickAt i4 } term margin) := by
  obtain ⟨Aw, cw, rfl⟩ := Kd.R_slice hk.way
  obtain ⟨hj1, hj3, hj0⟩ := hj
  have HKW := Lib.hid hk
  have HKP := Lib.hid hp
  have HWl := Lib.hid hwl
  have HLow := Lib.hid hk.full
  have hj4 : j < 4 := by omega
  have hjI : (j : Int) < 4 := by omega
  have hjn : ¬ (j : Int) < 0 := by omega
  obtain ⟨j0, hj00⟩ : ∃ j0 : Nat, j = j0 + 1 := ⟨j - 1, by omega⟩
  have HA3 : Hid (∀ V, Calls Try.prog 64 #[.int .i64 i, .int .i64 3] V fun e w' => e = .returned (.int .i64 (j0 : Int)) ∧ V = w') := Lib.hid (fun V => by
    have h := at_any V i 3 (by omega) (by omega)
    rw [hj0, show (j : Int) - 1 = (j0 : Int) by omega] at h
    exact h)
  have HA2 : Hid (∀ V, Calls Try.prog 64 #[.int .i64 place, .int .i64 2] V fun e w' => e = .returned (.int .i64 pl) ∧ V = w') := Lib.hid (fun V => by
    have h := at_any V place 2 (by omega) (by omega)
    rw [hpl] at h
    exact h)
  have hjj : (1 : Int) + (j0 : Int) = (j : Int) := by omega
  have hu41 := Try.underlying41
  have hu57 := Try.underlying57
  have hu106 := Try.underlying106
  have hu107 := Try.underlying107
  have hu141 := Try.underlying141
  have HA4 : Hid (∀ V, Calls Try.prog 64 #[.int .i64 i, .int .i64 4] V fun e w' => e = .returned (.int .i64 (i4 : Int)) ∧ V = w') := Lib.hid (fun V => by
    have h := at_any V i 4 (by omega) (by omega)
    rw [hi4] at h
    exact h)
  have HBd := Lib.hid hbd
  have HK9 := Lib.hid hK9
  have hi44 : i4 < 4 := by omega
  clear hbd hK9 hi4
  clear hk hp hj0 hj00 hpl hwl
  go_enter Try.func51, Try.ntmps51
  go_wp2_with (first
  | ((with_reducible refine gate_dst (N := 2) rfl ?_); refine box_event rfl (N := 2) rfl (cs := (WC x p m a b (.slice Aw x.way.length cw) term margin)) (t := 109) ?hr ?_; (case hr => first | (go_simp; done) | (go_simp; rfl)); intro g hg W1 hbox hb; have HE1 : Hid (Ed w W1 g lo p x m a b (.slice Aw x.way.length cw) term margin) := Lib.hid ⟨hbox, HKW.out.kept (Out.of hb), Out.of hb, (by rw [hg]; exact Nat.le_refl _), HLow.out⟩; clear hg hbox hb)
  | ((with_reducible refine gate_dst (N := 3) rfl ?_); refine box_event rfl (N := 3) rfl (cs := mC kind i place) (t := 114) ?hr ?_; (case hr => first | (go_simp; done) | (go_simp; rfl)); intro q hq W2 hbox hb; have HQ2 := Lib.hid (show Blk W2 q 114 (mC kind i place) from hbox); have HE2 := Lib.hid (HE1.out.o (Out.of hb)); have hgq : g ≠ q := (by rw [hq]; exact Nat.ne_of_lt HE1.out.blk.lt); clear hq hbox hb)
  | ((with_reducible refine gate_dst (N := 4) rfl ?_); refine box_event rfl (N := 4) rfl (cs := Z24) (t := 109) ?hr ?_; (case hr => first | (go_simp; done) | (go_simp; rfl)); intro r hr W3 hbox hb; have HR := Lib.hid (show Blk W3 r 109 Z24 from hbox); have HE := Lib.hid (HE2.out.o (Out.of hb)); have HQ := Lib.hid (HQ2.out.o (Out.of hb)); have hgr : g ≠ r := (by rw [hr]; exact Nat.ne_of_lt HE2.out.blk.lt); have hrw : w.heap.size ≤ r := (by rw [hr]; exact HE2.out.out.size); have HNow : Hid (∀ V, Out W3 V → Calls Try.prog 21 #[.pointer (some ⟨p, 0, none⟩), .int .i64 (j : Int)] V fun e w' => e = .returned (.int .i64 (x.c.N j)) ∧ V = w') := Lib.hid (fun V hX => now_some V lo (lo + 4) p 4 x.c (HE.out.wd.kept hX).clk j (by decide) hj4); have q0 : W3.cell? ⟨q, 0, none⟩ = some (.int .i64 kind) := HQ.out.cell 0; have q1 : W3.cell? ⟨q, 1, none⟩ = some (.int .i64 i) := HQ.out.cell 1; have q2 : W3.cell? ⟨q, 2, none⟩ = some (.int .i64 place) := HQ.out.cell 2; (try rw [hkd] at q0); have g20 : W3.cell? ⟨g, 20, none⟩ = some (.slice Aw x.way.length cw) := HE.out.blk.cell 20; clear hr hbox hb HE1 HE2 HQ2)
  | (go_at_call 64; (with_reducible refine (HA3.out _).mono ?_); rintro e5 W5 ⟨rfl, rfl⟩)
  | (go_at_call 64; (with_reducible refine (HA2.out _).mono ?_); rintro e5 W5 ⟨rfl, rfl⟩)
  | fail)
  have HTick : Hid (∀ V, Out W3 V → Calls Try.prog 19 #[.pointer (some ⟨p, 0, none⟩), .int .i64 (i4 : Int)] V fun e w' => e = .returned (.int .i64 0) ∧ Clk w' lo (lo + 4) p 4 (x.c.tickAt i4) ∧ Only lo (lo + 4) V w') := Lib.hid (fun V hX => tick_some V lo (lo + 4) p 4 K x.c (HE.out.wd.kept hX).clk HBd.out HK9.out i4 (by decide) hi44)
  refine start_ (n := 6) (S := fun W' => Blk W' g 109 (WC x p m a b (.slice Aw x.way.length cw) term margin) ∧ Blk W' q 114 (mC kind i place) ∧ Out W3 W') (ds := [5]) #[false, false, false, false, false, false] (by kernel_rfl) rfl rfl (⟨HE.out.blk.drew, HQ.out.drew, (Only.refl _ _ _).drew⟩) (fun hHeld => ?_)
  refine pure_ (i := 0) (N := some 26) (v := ?_) (a' := ?_) #[true, false, false, false, false, false] rfl rfl (by kernel_rfl) (fun _ _ _ h => h) (Or.inl ⟨by rfl, ?_⟩) ?_ ?_
  rotate_left
  · intro w'
    go_simp
    (try with_reducible rfl)
  rotate_left
  · simp only [Act.put, List.setIfInBounds_toArray, List.set_cons_zero, List.set_cons_succ]
    rfl
  refine pure_ (i := 2) (N := some 28) (v := ?_) (a' := ?_) #[true, false, true, false, false, false] rfl rfl (by kernel_rfl) (fun _ _ _ h => h) (Or.inl ⟨by rfl, ?_⟩) ?_ ?_
  rotate_left
  · intro w'
    go_simp
    (try with_reducible rfl)
  rotate_left
  · simp only [Act.put, List.setIfInBounds_toArray, List.set_cons_zero, List.set_cons_succ]
    rfl
  refine take_ (i := 1) (N := some 27) (v := ?_) (a' := ?_) #[true, true, true, false, false, false] rfl rfl (by kernel_rfl) (fun _ _ _ h => h) (Or.inl ⟨by rfl, ?_⟩) hHeld ?_ ?_
  rotate_left
  · intro w' s0
    obtain ⟨t1, t2, t3⟩ := s0
    have c0 : w'.cell? ⟨g, 0, none⟩ = some (.pointer (some ⟨p, 0, none⟩)) := t1.cell 0
    go_simp
    (try with_reducible rfl)
  rotate_left
  · simp only [Act.put, List.setIfInBounds_toArray, List.set_cons_zero, List.set_cons_succ]
    rfl
  refine take_ (i := 3) (N := some 29) (v := ?_) (a' := ?_) #[true, true, true, true, false, false] rfl rfl (by kernel_rfl) (fun _ _ _ h => h) (Or.inl ⟨by rfl, ?_⟩) hHeld ?_ ?_
  rotate_left
  · intro w' s0
    obtain ⟨t1, t2, t3⟩ := s0
    have c0 : w'.cell? ⟨q, 1, none⟩ = some (.int .i64 i) := t2.cell 1
    go_simp
    (try with_reducible rfl)
  rotate_left
  · simp only [Act.put, List.setIfInBounds_toArray, List.set_cons_zero, List.set_cons_succ]
    rfl
  refine one_ (i := 4) (N := some 30) (oi := ⟨some 30, Go.Op.call ⟨Go.Callee.value (Go.Operand.func 64), #[Go.Operand.tmp 29, Go.Operand.const (Go.Value.int Go.IntKind.i64 4)], #[3, 3]⟩, 3, "outright.go:76", #[⟨3, Go.Ground.data⟩], none⟩) #[true, true, true, true, true, false] rfl rfl (by kernel_rfl) (by decide) (fun K hK => ?_)
  rw [if_pos (by rfl)]
  go_simp
  (go_at_call 64; (with_reducible refine (HA4.out _).mono ?_); rintro e5 W5 ⟨rfl, rfl⟩)
  refine hK.out _ _ (hHeld) (fun hHeld => ?_)
  clear hK K
  try simp only [Act.put, List.setIfInBounds_toArray, List.set_cons_zero, List.set_cons_succ]
  refine last_ (i := 5) (N := some 31) (oi := ⟨some 31, Go.Op.call ⟨Go.Callee.value (Go.Operand.func 19), #[Go.Operand.tmp 27, Go.Operand.tmp 30], #[24, 3]⟩, 25, "outright.go:76", #[⟨1, Go.Ground.data⟩, ⟨4, Go.Ground.data⟩, ⟨4, Go.Ground.chain⟩], none⟩) #[true, true, true, true, true, true] rfl rfl (by kernel_rfl) (by decide) (fun K hK => ?_)
  rw [if_pos (by rfl)]
  go_simp
  (go_at_call 19; (with_reducible refine (HTick.out _ hHeld.2.2).mono ?_); rintro e6 W9 ⟨rfl, hclk, hO⟩; have HW9 := Lib.hid ((HE.out.wd.kept hHeld.2.2).tick i4 hclk hO); have HO9 := Lib.hid ((Out.wide (HE.out.out.thens hHeld.2.2)).trans hO); have HG9 : Hid (Blk W9 g 109 (WC x p m a b (.slice Aw x.way.length cw) term margin)) := Lib.hid ((hO.block g hHeld.1.lt (.inr (Nat.le_trans HLow.out HE.out.new))).trans hHeld.1); have HR8 : Hid (Blk W9 r 109 Z24) := Lib.hid ((hO.block r (HR.out.o hHeld.2.2).lt (.inr (Nat.le_trans HLow.out hrw))).trans (HR.out.o hHeld.2.2)); clear hclk hO hHeld)
  refine hK.out _ _ ?_
  clear hK K
  try simp only [Act.put, List.setIfInBounds_toArray, List.set_cons_zero, List.set_cons_succ]
  refine done_ (by kernel_rfl) ?_
  go_wp2_with (first
    | ((with_reducible refine gate_dst (N := 177) rfl ?_); refine wpList_load_part _ rfl (.tmp 2) 109 rfl g 0 (WC x p m a b (.slice Aw x.way.length cw) term margin) rfl agg109 size109 109 _ HG9.out (fun k u hu => (by rw [Nat.zero_add]; simpa using hu)) ?_)
    | (refine wpList_store_part _ rfl (.tmp 4) (.tmp 177) 109 rfl r 0 (WC x p m a b (.slice Aw x.way.length cw) term margin) rfl rfl size109 HKW.out.one 109 _ HR8.out (Nat.le_refl _) (WC x p m a b (.slice Aw x.way.length cw) term margin) rfl ?_; intro w9 hbz hfz; have HR9 := Lib.hid hbz; have HZ9 := Lib.hid (HW9.out.far HR8.out (by decide) (Nat.le_trans HLow.out hrw) hfz); have HP9 := Lib.hid (HO9.out.fresh (Only.of_below (hfz.below hrw) (Nat.le_refl _))); clear hbz hfz)
    | fail)
  exact bodyPost_ret (results_blk1 Try.results51 _ _ r (WC x p m a b (.slice Aw x.way.length cw) term margin) rfl agg109 size109 HR9.out) rfl ⟨m, a, b, (.slice Aw x.way.length cw), rfl, HZ9.out, HP9.out⟩
end Go.Proofs.Ytefllgpehhlkoaa.Mar
