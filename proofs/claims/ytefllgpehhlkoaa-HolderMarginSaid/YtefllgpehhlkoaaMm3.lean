/-
  HolderMargin: safe.
  HolderMargin: a message comes that turns a holder, the authority, or nothing.
-/
import Derived.Test.YtefllgpehhlkoaaMm2
namespace Go.Proofs.Ytefllgpehhlkoaa.Mar
open Go.RowKit Go.Maps Go.Proofs.YtefllgpehhlkoaaW.PrintWords Go.Proofs.YtefllgpehhlkoaaW.PrintLast
set_option linter.unusedVariables false
set_option linter.unusedSimpArgs false

/-- who believes is known, and is one -/
structure SafeW (x : MW) : Prop where
  known : ∀ j : Nat, 1 ≤ j → j ≤ 3 → ∀ pl e, believe (x.hs j).has (x.c.N j) pl = (e, true) → e ≤ x.s.epoch ∧ (x.began = false → ∃ e' t, whoL x.s.hs (x.c.N 0) pl = some ((j : Int), e', t) ∧ e ≤ e')
  one : ∀ pl (j j' : Nat) e e', 1 ≤ j → j ≤ 3 → 1 ≤ j' → j' ≤ 3 → believe (x.hs j).has (x.c.N j) pl = (e, true) → believe (x.hs j').has (x.c.N j') pl = (e', true) → j = j'
def Bel (x : MW) (pl : Int) (j : Nat) : Prop := ∃ e, believe (x.hs j).has (x.c.N j) pl = (e, true)

set_option maxRecDepth 100000 in
set_option maxHeartbeats 8000000 in
theorem safe_any (w : World) (lo p : Nat) (x : MW) (m : Option Nat) (a b : Nat → Option Nat) (v : Value) (term margin : Int) (hk : Wd2 w lo p x m a b v) (hs : SafeW x) :
    Calls Try.prog 52 #[.agg (WC x p m a b v term margin)] w fun e w' => e = .returned (.bool true) ∧ Out w w' := by
  have HKW := Lib.hid hk
  have HS := Lib.hid hs
  clear hk hs
  have hu41 := Try.underlying41
  have hu106 := Try.underlying106
  go_enter Try.func52, Try.ntmps52
  go_wp2_with (first
    | ((with_reducible refine gate_dst (N := 1) rfl ?_); refine box_event rfl (N := 1) rfl (cs := WC x p m a b v term margin) (t := 109) ?hr ?_; (case hr => first | (go_simp; done) | (go_simp; rfl)); intro g hg W1 hbox hb; have HF0 := Lib.hid (And.intro (show Blk W1 g 109 (WC x p m a b v term margin) from hbox) (Out.of hb)); clear hg hbox hb)
    | fail)
  go_loopw [3] (fun pv wr => ∃ k : Nat, pv = .int .i64 (k : Int) ∧ k ≤ 2 ∧ Hid (Blk wr g 109 (WC x p m a b v term margin) ∧ Out w wr)) (fun pv _ => 2 - (intOf pv).toNat)
  case atStart => exact ⟨0, rfl, by omega, HF0⟩
  case round =>
    clear HF0
    obtain ⟨k, rfl, hk2, HF⟩ := hrel
    by_cases hlt : k < 2
    · have HWF : Hid ((Lit.int .i64 (k : Int)).wf = true) := Lib.hid (WalkArith.wf_i64 (by omega))
      have hk2I : (k : Int) < 2 := by omega
      have HLT := Lib.hid hlt
      clear hlt
      go_wp2_with fail
      go_loopw [4, 5] (fun nv hv wr => ∃ (j : Nat) (n : Int), hv = .int .i64 (j : Int) ∧ 1 ≤ j ∧ j ≤ 4 ∧ nv = .int .i64 n ∧ (n = 0 ∨ n = 1 ∧ ∃ i, 1 ≤ i ∧ i < j ∧ Bel x k i) ∧ Hid (Blk wr g 109 (WC x p m a b v term margin) ∧ Out w wr)) (fun _ hv _ => 4 - (intOf hv).toNat)
      case atStart => exact ⟨1, 0, rfl, by omega, by omega, rfl, .inl rfl, HF⟩
      case round =>
        clear HF
        obtain ⟨j, n, rfl, hj1, hj4', rfl, hn, HF⟩ := hrel
        by_cases hj4 : j < 4
        · have hjI : (j : Int) < 4 := by omega
          have hj0I : ¬ (j : Int) < 0 := by omega
          obtain ⟨⟨e, ok⟩, hbe⟩ : ∃ r, believe (x.hs j).has (x.c.N j) k = r := ⟨_, rfl⟩
          have HBE := Lib.hid hbe
          have HWD := Lib.hid (HKW.out.kept HF.out.2)
          have HNowJ : Hid (∀ V, Out wr V → Calls Try.prog 21 #[.pointer (some ⟨p, 0, none⟩), .int .i64 (j : Int)] V fun e w' => e = .returned (.int .i64 (x.c.N j)) ∧ V = w') := Lib.hid (fun V hX => now_some V lo (lo + 4) p 4 x.c (HWD.out.kept hX).clk j (by decide) (by omega))
          have HBel : Hid (∀ V, Out wr V → Calls Try.prog 28 #[.agg (hC (x.hs j) (a j) (b j)), .int .i64 (x.c.N j), .int .i64 (k : Int)] V fun e6 w' => e6 = .returned (.tuple #[.int .i64 e, .bool ok]) ∧ Out wr w' ∧ Out V w') := Lib.hid (fun V hX => bel_from hX (HWD.out.hh j) HWF.out hbe)
          clear hbe
          go_wp2_with fail
          refine start_ (n := 15) (S := fun W' => Blk W' g 109 (WC x p m a b v term margin) ∧ Out wr W') (ds := []) #[false, false, false, false, false, false, false, false, false, false, false, false, false, false, false] (by kernel_rfl) rfl rfl (⟨HF.out.1.drew, (Only.refl _ _ _).drew⟩) (fun hHeld => ?_)
          refine pure_ (i := 0) (N := some 19) (v := ?_) (a' := ?_) #[true, false, false, false, false, false, false, false, false, false, false, false, false, false, false] rfl rfl (by kernel_rfl) (fun _ _ _ h => h) (Or.inl ⟨by rfl, ?_⟩) ?_ ?_
          rotate_left
          · intro w'
            go_simp
            (try with_reducible rfl)
          rotate_left
          · simp only [Act.put, List.setIfInBounds_toArray, List.set_cons_zero, List.set_cons_succ]
            rfl
          refine pure_ (i := 1) (N := some 20) (v := ?_) (a' := ?_) #[true, true, false, false, false, false, false, false, false, false, false, false, false, false, false] rfl rfl (by kernel_rfl) (fun _ _ _ h => h) (Or.inl ⟨by rfl, ?_⟩) ?_ ?_
          rotate_left
          · intro w'
            go_simp
            (try with_reducible rfl)
          rotate_left
          · simp only [Act.put, List.setIfInBounds_toArray, List.set_cons_zero, List.set_cons_succ]
            rfl
          refine pure_ (i := 2) (N := some 21) (v := ?_) (a' := ?_) #[true, true, true, false, false, false, false, false, false, false, false, false, false, false, false] rfl rfl (by kernel_rfl) (fun _ _ _ h => h) (Or.inl ⟨by rfl, ?_⟩) ?_ ?_
          rotate_left
          · intro w'
            go_simp
            (try with_reducible rfl)
          rotate_left
          · simp only [Act.put, List.setIfInBounds_toArray, List.set_cons_zero, List.set_cons_succ]
            rfl
          refine pure_ (i := 4) (N := some 23) (v := ?_) (a' := ?_) #[true, true, true, false, true, false, false, false, false, false, false, false, false, false, false] rfl rfl (by kernel_rfl) (fun _ _ _ h => h) (Or.inl ⟨by rfl, ?_⟩) ?_ ?_
          rotate_left
          · intro w'
            go_simp
            (try with_reducible rfl)
          rotate_left
          · simp only [Act.put, List.setIfInBounds_toArray, List.set_cons_zero, List.set_cons_succ]
            rfl
          refine pure_ (i := 6) (N := some 25) (v := ?_) (a' := ?_) #[true, true, true, false, true, false, true, false, false, false, false, false, false, false, false] rfl rfl (by kernel_rfl) (fun _ _ _ h => h) (Or.inl ⟨by rfl, ?_⟩) ?_ ?_
          rotate_left
          · intro w'
            go_simp
            (try with_reducible rfl)
          rotate_left
          · simp only [Act.put, List.setIfInBounds_toArray, List.set_cons_zero, List.set_cons_succ]
            rfl
          refine pure_ (i := 8) (N := some 27) (v := ?_) (a' := ?_) #[true, true, true, false, true, false, true, false, true, false, false, false, false, false, false] rfl rfl (by kernel_rfl) (fun _ _ _ h => h) (Or.inl ⟨by rfl, ?_⟩) ?_ ?_
          rotate_left
          · intro w'
            go_simp
            (try with_reducible rfl)
          rotate_left
          · simp only [Act.put, List.setIfInBounds_toArray, List.set_cons_zero, List.set_cons_succ]
            rfl
          refine take_ (i := 3) (N := some 22) (v := ?_) (a' := ?_) #[true, true, true, true, true, false, true, false, true, false, false, false, false, false, false] rfl rfl (by kernel_rfl) (fun _ _ _ h => h) (Or.inl ⟨by rfl, ?_⟩) hHeld ?_ ?_
          rotate_left
          · intro w' s0
            obtain ⟨t1, t2⟩ := s0
            refine exec_load_part _ (.tmp 21) 41 ?_ g (4 + j * 4) (hC (x.hs j) (a j) (b j)) ?_ agg41 size41 109 _ t1 ?_
            · rfl
            · (first | rfl | (simp [Act.eval]))
            · exact WC_h j hj4
          rotate_left
          · simp only [Act.put, List.setIfInBounds_toArray, List.set_cons_zero, List.set_cons_succ]
            rfl
          refine take_ (i := 5) (N := some 24) (v := ?_) (a' := ?_) #[true, true, true, true, true, true, true, false, true, false, false, false, false, false, false] rfl rfl (by kernel_rfl) (fun _ _ _ h => h) (Or.inl ⟨by rfl, ?_⟩) hHeld ?_ ?_
          rotate_left
          · intro w' s0
            obtain ⟨t1, t2⟩ := s0
            have c0 : w'.cell? ⟨g, 0, none⟩ = some (.pointer (some ⟨p, 0, none⟩)) := t1.cell 0
            go_simp
            (try with_reducible rfl)
          rotate_left
          · simp only [Act.put, List.setIfInBounds_toArray, List.set_cons_zero, List.set_cons_succ]
            rfl
          refine one_ (i := 7) (N := some 26) (oi := ⟨some 26, Go.Op.call ⟨Go.Callee.value (Go.Operand.func 21), #[Go.Operand.tmp 24, Go.Operand.tmp 25], #[24, 3]⟩, 3, "outright.go:115", #[⟨5, Go.Ground.data⟩, ⟨6, Go.Ground.data⟩], none⟩) #[true, true, true, true, true, true, true, true, true, false, false, false, false, false, false] rfl rfl (by kernel_rfl) (by decide) (fun K hK => ?_)
          rw [if_pos (by rfl)]
          go_simp
          (go_at_call 21; (with_reducible refine (HNowJ.out _ hHeld.2).mono ?_); rintro e5 W5 ⟨rfl, rfl⟩)
          refine hK.out _ _ (hHeld) (fun hHeld => ?_)
          clear hK K
          try simp only [Act.put, List.setIfInBounds_toArray, List.set_cons_zero, List.set_cons_succ]
          refine one_ (i := 9) (N := some 28) (oi := ⟨some 28, Go.Op.call ⟨Go.Callee.value (Go.Operand.func 28), #[Go.Operand.tmp 22, Go.Operand.tmp 26, Go.Operand.tmp 27], #[41, 3, 3]⟩, 46, "outright.go:115", #[⟨3, Go.Ground.data⟩, ⟨7, Go.Ground.data⟩, ⟨8, Go.Ground.data⟩, ⟨7, Go.Ground.chain⟩], none⟩) #[true, true, true, true, true, true, true, true, true, true, false, false, false, false, false] rfl rfl (by kernel_rfl) (by decide) (fun K hK => ?_)
          rw [if_pos (by rfl)]
          go_simp
          (go_at_call 28; (with_reducible refine (HBel.out _ hHeld.2).mono ?_); rintro e6 W6 ⟨rfl, hX6, hV6⟩)
          refine hK.out _ _ (⟨hHeld.1.o hV6, hX6⟩) (fun hHeld => ?_)
          clear hK K
          try simp only [Act.put, List.setIfInBounds_toArray, List.set_cons_zero, List.set_cons_succ]
          refine pure_ (i := 10) (N := some 18) (v := ?_) (a' := ?_) #[true, true, true, true, true, true, true, true, true, true, true, false, false, false, false] rfl rfl (by kernel_rfl) (fun _ _ _ h => h) (Or.inl ⟨by rfl, ?_⟩) ?_ ?_
          rotate_left
          · intro w'
            go_simp
            (try with_reducible rfl)
          rotate_left
          · simp only [Act.put, List.setIfInBounds_toArray, List.set_cons_zero, List.set_cons_succ]
            rfl
          refine pure_ (i := 11) (N := some 29) (v := ?_) (a' := ?_) #[true, true, true, true, true, true, true, true, true, true, true, true, false, false, false] rfl rfl (by kernel_rfl) (fun _ _ _ h => h) (Or.inl ⟨by rfl, ?_⟩) ?_ ?_
          rotate_left
          · intro w'
            go_simp
            (try with_reducible rfl)
          rotate_left
          · simp only [Act.put, List.setIfInBounds_toArray, List.set_cons_zero, List.set_cons_succ]
            rfl
          refine pure_ (i := 12) (N := some 30) (v := ?_) (a' := ?_) #[true, true, true, true, true, true, true, true, true, true, true, true, true, false, false] rfl rfl (by kernel_rfl) (fun _ _ _ h => h) (Or.inl ⟨by rfl, ?_⟩) ?_ ?_
          rotate_left
          · intro w'
            go_simp
            (try with_reducible rfl)
          rotate_left
          · simp only [Act.put, List.setIfInBounds_toArray, List.set_cons_zero, List.set_cons_succ]
            rfl
          refine pure_ (i := 13) (N := some 6) (v := ?_) (a' := ?_) #[true, true, true, true, true, true, true, true, true, true, true, true, true, true, false] rfl rfl (by kernel_rfl) (fun _ _ _ h => h) (Or.inl ⟨by rfl, ?_⟩) ?_ ?_
          rotate_left
          · intro w'
            go_simp
            (try with_reducible rfl)
          rotate_left
          · simp only [Act.put, List.setIfInBounds_toArray, List.set_cons_zero, List.set_cons_succ]
            rfl
          refine pure_ (i := 14) (N := some 7) (v := ?_) (a' := ?_) #[true, true, true, true, true, true, true, true, true, true, true, true, true, true, true] rfl rfl (by kernel_rfl) (fun _ _ _ h => h) (Or.inl ⟨by rfl, ?_⟩) ?_ ?_
          rotate_left
          · intro w'
            go_simp
            (try with_reducible rfl)
          rotate_left
          · simp only [Act.put, List.setIfInBounds_toArray, List.set_cons_zero, List.set_cons_succ]
            rfl
          refine done_ (by kernel_rfl) ?_
          have HX6 := Lib.hid hHeld.1
          have HO6 := Lib.hid hHeld.2
          clear hHeld
          cases ok with
          | false =>
            go_wp2_with fail
            go_roundw
            case rel =>
              refine ⟨j + 1, n, by go_num, by omega, by omega, rfl, ?_, Lib.hid ⟨HX6.out, HF.out.2.thens HO6.out⟩⟩
              rcases hn with h | ⟨h, i, h1, h2, h3⟩
              · exact .inl h
              · exact .inr ⟨h, i, h1, by omega, h3⟩
            case measure => simp [intOf]; omega
          | true =>
            have hn0 : n = 0 := by
              rcases hn with h | ⟨h, i, h1, h2, e', h3⟩
              · exact h
              · have := HS.out.one k i j e' e h1 (by omega) (by omega) (by omega) h3 HBE.out
                omega
            subst hn0
            clear hn
            have HKN := Lib.hid (HS.out.known j (by omega) (by omega) k e HBE.out)
            have HWD2 := Lib.hid (HWD.out.kept HO6.out)
            have HNow0 : Hid (∀ V, Out W6 V → Calls Try.prog 21 #[.pointer (some ⟨p, 0, none⟩), .int .i64 0] V fun e w' => e = .returned (.int .i64 (x.c.N 0)) ∧ V = w') := Lib.hid (fun V hX => now_some V lo (lo + 4) p 4 x.c (HWD2.out.kept hX).clk 0 (by decide) (by omega))
            have hke := HKN.out.1
            have hke2 : ¬ x.s.epoch < e := by omega
            cases hbg : x.began with
            | true =>
              obtain ⟨⟨⟨y0, y1, y2⟩, is⟩, hy⟩ : ∃ r : (Int × Int × Int) × Bool, r = ((whoL x.s.hs (x.c.N 0) k).getD (0, 0, 0), (whoL x.s.hs (x.c.N 0) k).isSome) := ⟨_, rfl⟩
              injection hy with hy1 hy2
              have HWho : Hid (∀ V, Out W6 V → Calls Try.prog 41 #[.agg (sC x.s m), .int .i64 (x.c.N 0), .int .i64 (k : Int)] V fun e6 w' => e6 = .returned (.tuple #[.agg #[.int .i64 y0, .int .i64 y1, .int .i64 y2], .bool is]) ∧ Out W6 w' ∧ Out V w') := Lib.hid (fun V hX => by
                have h := who_from hX (S := x.s) (ep := x.s.epoch) (qu := x.s.quiet) (now := x.c.N 0) HWD2.out.s HWF.out rfl
                rw [← hy1, ← hy2] at h
                exact h)
              clear hy1 hy2
              go_wp2_with fail
              refine start_ (n := 13) (S := fun W' => Blk W' g 109 (WC x p m a b v term margin) ∧ Out W6 W') (ds := [11]) #[false, false, false, false, false, false, false, false, false, false, false, false, false] (by kernel_rfl) rfl rfl (⟨HX6.out.drew, (Only.refl _ _ _).drew⟩) (fun hHeld => ?_)
              refine pure_ (i := 0) (N := some 36) (v := ?_) (a' := ?_) #[true, false, false, false, false, false, false, false, false, false, false, false, false] rfl rfl (by kernel_rfl) (fun _ _ _ h => h) (Or.inl ⟨by rfl, ?_⟩) ?_ ?_
              rotate_left
              · intro w'
                go_simp
                (try with_reducible rfl)
              rotate_left
              · simp only [Act.put, List.setIfInBounds_toArray, List.set_cons_zero, List.set_cons_succ]
                rfl
              refine pure_ (i := 2) (N := some 38) (v := ?_) (a' := ?_) #[true, false, true, false, false, false, false, false, false, false, false, false, false] rfl rfl (by kernel_rfl) (fun _ _ _ h => h) (Or.inl ⟨by rfl, ?_⟩) ?_ ?_
              rotate_left
              · intro w'
                go_simp
                (try with_reducible rfl)
              rotate_left
              · simp only [Act.put, List.setIfInBounds_toArray, List.set_cons_zero, List.set_cons_succ]
                rfl
              refine pure_ (i := 5) (N := some 41) (v := ?_) (a' := ?_) #[true, false, true, false, false, true, false, false, false, false, false, false, false] rfl rfl (by kernel_rfl) (fun _ _ _ h => h) (Or.inl ⟨by rfl, ?_⟩) ?_ ?_
              rotate_left
              · intro w'
                go_simp
                (try with_reducible rfl)
              rotate_left
              · simp only [Act.put, List.setIfInBounds_toArray, List.set_cons_zero, List.set_cons_succ]
                rfl
              refine take_ (i := 1) (N := some 37) (v := ?_) (a' := ?_) #[true, true, true, false, false, true, false, false, false, false, false, false, false] rfl rfl (by kernel_rfl) (fun _ _ _ h => h) (Or.inl ⟨by rfl, ?_⟩) hHeld ?_ ?_
              rotate_left
              · intro w' s0
                obtain ⟨t1, t2⟩ := s0
                refine exec_load_part _ (.tmp 36) 57 ?_ g 1 (sC x.s m) ?_ agg57 size57 109 _ t1 ?_
                · rfl
                · (first | rfl | (simp [Act.eval]))
                · exact WC_s
              rotate_left
              · simp only [Act.put, List.setIfInBounds_toArray, List.set_cons_zero, List.set_cons_succ]
                rfl
              refine take_ (i := 3) (N := some 39) (v := ?_) (a' := ?_) #[true, true, true, true, false, true, false, false, false, false, false, false, false] rfl rfl (by kernel_rfl) (fun _ _ _ h => h) (Or.inl ⟨by rfl, ?_⟩) hHeld ?_ ?_
              rotate_left
              · intro w' s0
                obtain ⟨t1, t2⟩ := s0
                have c0 : w'.cell? ⟨g, 0, none⟩ = some (.pointer (some ⟨p, 0, none⟩)) := t1.cell 0
                go_simp
                (try with_reducible rfl)
              rotate_left
              · simp only [Act.put, List.setIfInBounds_toArray, List.set_cons_zero, List.set_cons_succ]
                rfl
              refine wpAnyLast_ready (rs := [4, 10]) (by kernel_rfl) (by simp) ?_
              refine AllReadyL.cons (o := ⟨some 40, Go.Op.call ⟨Go.Callee.value (Go.Operand.func 21), #[Go.Operand.tmp 39, Go.Operand.const (Go.Value.int Go.IntKind.i64 0)], #[24, 3]⟩, 3, "outright.go:120", #[⟨3, Go.Ground.data⟩], none⟩) rfl (by decide) (fun K hK => ?_) ?_
              focus
                rw [if_pos (by rfl)]
                go_simp
                (go_at_call 21; (with_reducible refine (HNow0.out _ hHeld.2).mono ?_); rintro e5 W5 ⟨rfl, rfl⟩)
                refine hK.out _ _ (hHeld) (fun hHeld => ?_)
                clear hK K
                try simp only [Act.put, List.setIfInBounds_toArray, List.set_cons_zero, List.set_cons_succ]
                refine wpAnyLast_ready (rs := [6, 10]) (by kernel_rfl) (by simp) ?_
                refine AllReadyL.cons (o := ⟨some 42, Go.Op.call ⟨Go.Callee.value (Go.Operand.func 41), #[Go.Operand.tmp 37, Go.Operand.tmp 40, Go.Operand.tmp 41], #[57, 3, 3]⟩, 83, "outright.go:120", #[⟨1, Go.Ground.data⟩, ⟨4, Go.Ground.data⟩, ⟨5, Go.Ground.data⟩, ⟨4, Go.Ground.chain⟩], none⟩) rfl (by decide) (fun K hK => ?_) ?_
                focus
                  rw [if_pos (by rfl)]
                  go_simp
                  (go_at_call 41; (with_reducible refine (HWho.out _ hHeld.2).mono ?_); rintro e6 W9 ⟨rfl, hX6, hV6⟩; (try have HZ := Lib.hid (HZ.out.o hV6)))
                  refine hK.out _ _ (⟨hHeld.1.o hV6, hX6⟩) (fun hHeld => ?_)
                  clear hK K
                  try simp only [Act.put, List.setIfInBounds_toArray, List.set_cons_zero, List.set_cons_succ]
                  refine pure_ (i := 7) (N := some 35) (v := ?_) (a' := ?_) #[true, true, true, true, true, true, true, true, false, false, false, false, false] rfl rfl (by kernel_rfl) (fun _ _ _ h => h) (Or.inl ⟨by rfl, ?_⟩) ?_ ?_
                  rotate_left
                  · intro w'
                    go_simp
                    (try with_reducible rfl)
                  rotate_left
                  · simp only [Act.put, List.setIfInBounds_toArray, List.set_cons_zero, List.set_cons_succ]
                    rfl
                  refine pure_ (i := 8) (N := some 43) (v := ?_) (a' := ?_) #[true, true, true, true, true, true, true, true, true, false, false, false, false] rfl rfl (by kernel_rfl) (fun _ _ _ h => h) (Or.inl ⟨by rfl, ?_⟩) ?_ ?_
                  rotate_left
                  · intro w'
                    go_simp
                    (try with_reducible rfl)
                  rotate_left
                  · simp only [Act.put, List.setIfInBounds_toArray, List.set_cons_zero, List.set_cons_succ]
                    rfl
                  refine pure_ (i := 9) (N := some 44) (v := ?_) (a' := ?_) #[true, true, true, true, true, true, true, true, true, true, false, false, false] rfl rfl (by kernel_rfl) (fun _ _ _ h => h) (Or.inl ⟨by rfl, ?_⟩) ?_ ?_
                  rotate_left
                  · intro w'
                    go_simp
                    (try with_reducible rfl)
                  rotate_left
                  · simp only [Act.put, List.setIfInBounds_toArray, List.set_cons_zero, List.set_cons_succ]
                    rfl
                  refine one_ (i := 10) (N := some 8) (oi := ⟨some 8, Go.Op.alloc 82, 0, "outright.go:120", #[], none⟩) #[true, true, true, true, true, true, true, true, true, true, true, false, false] rfl rfl (by kernel_rfl) (by decide) (fun K hK => ?_)
                  refine step_alloc (by rfl) rfl (cs := #[.int .i64 0, .int .i64 0, .int .i64 0]) (t := 82) ?hr ?_
                  (case hr => first | (go_simp; done) | (go_simp; rfl))
                  intro h hh W7 hbox hO
                  have HZ := Lib.hid hbox
                  have hne : g ≠ h := (by rw [hh]; exact Nat.ne_of_lt hHeld.1.lt)
                  have hge : W6.heap.size ≤ h := (by rw [hh]; exact hHeld.2.size)
                  clear hh hbox
                  refine hK.out _ _ (⟨hHeld.1.o hO, hHeld.2.thens hO⟩) (fun hHeld => ?_)
                  clear hK K
                  try simp only [Act.put, List.setIfInBounds_toArray, List.set_cons_zero, List.set_cons_succ]
                  refine last_ (i := 11) (N := none) (oi := ⟨none, Go.Op.store 82 (Go.Operand.tmp 8) (Go.Operand.tmp 43), 0, "outright.go:120", #[⟨10, Go.Ground.data⟩, ⟨8, Go.Ground.data⟩, ⟨6, Go.Ground.chain⟩, ⟨0, Go.Ground.phase⟩, ⟨1, Go.Ground.phase⟩, ⟨2, Go.Ground.phase⟩, ⟨3, Go.Ground.phase⟩, ⟨4, Go.Ground.phase⟩, ⟨5, Go.Ground.phase⟩, ⟨6, Go.Ground.phase⟩, ⟨7, Go.Ground.phase⟩, ⟨8, Go.Ground.phase⟩, { on := 9, ground := Go.Ground.textOnly Go.Departure.lateStores }, ⟨10, Go.Ground.phase⟩], none⟩) #[true, true, true, true, true, true, true, true, true, true, true, true, false] rfl rfl (by kernel_rfl) (by decide) (fun K hK => ?_)
                  refine step_store_part _ (by rfl) rfl (.tmp 8) (.tmp 43) 82 rfl h 0 (#[.int .i64 y0, .int .i64 y1, .int .i64 y2]) rfl rfl size82 rfl 82 _ HZ.out (Nat.le_refl _) (#[.int .i64 y0, .int .i64 y1, .int .i64 y2]) rfl ?_
                  intro w7 hb7 hfr
                  have y0c : w7.cell? ⟨h, 0, none⟩ = some (.int .i64 y0) := hb7.cell 0
                  have y1c : w7.cell? ⟨h, 1, none⟩ = some (.int .i64 y1) := hb7.cell 1
                  have HX7 := Lib.hid (hHeld.1.away hfr hne)
                  have HO7 := Lib.hid (hHeld.2.fresh (Only.of_below (hfr.below hge) (Nat.le_refl _)))
                  clear hb7 hfr hHeld
                  refine hK.out _ _ ?_
                  clear hK K
                  try simp only [Act.put, List.setIfInBounds_toArray, List.set_cons_zero, List.set_cons_succ]
                  refine pure_ (i := 12) (N := some 9) (v := ?_) (a' := ?_) #[true, true, true, true, true, true, true, true, true, true, true, true, true] rfl rfl (by kernel_rfl) (fun _ _ _ h => h) (Or.inl ⟨by rfl, ?_⟩) ?_ ?_
                  rotate_left
                  · intro w'
                    go_simp
                    (try with_reducible rfl)
                  rotate_left
                  · simp only [Act.put, List.setIfInBounds_toArray, List.set_cons_zero, List.set_cons_succ]
                    rfl
                  refine done_ (by kernel_rfl) ?_
                rotate_left 1
                refine AllReadyL.cons (o := ⟨some 8, Go.Op.alloc 82, 0, "outright.go:120", #[], none⟩) rfl (by decide) (fun K hK => ?_) ?_
                focus
                  refine step_alloc (by rfl) rfl (cs := #[.int .i64 0, .int .i64 0, .int .i64 0]) (t := 82) ?hr ?_
                  (case hr => first | (go_simp; done) | (go_simp; rfl))
                  intro h hh W7 hbox hO
                  have HZ := Lib.hid hbox
                  have hne : g ≠ h := (by rw [hh]; exact Nat.ne_of_lt hHeld.1.lt)
                  have hge : W6.heap.size ≤ h := (by rw [hh]; exact hHeld.2.size)
                  clear hh hbox
                  refine hK.out _ _ (⟨hHeld.1.o hO, hHeld.2.thens hO⟩) (fun hHeld => ?_)
                  clear hK K
                  try simp only [Act.put, List.setIfInBounds_toArray, List.set_cons_zero, List.set_cons_succ]
                  refine one_ (i := 6) (N := some 42) (oi := ⟨some 42, Go.Op.call ⟨Go.Callee.value (Go.Operand.func 41), #[Go.Operand.tmp 37, Go.Operand.tmp 40, Go.Operand.tmp 41], #[57, 3, 3]⟩, 83, "outright.go:120", #[⟨1, Go.Ground.data⟩, ⟨4, Go.Ground.data⟩, ⟨5, Go.Ground.data⟩, ⟨4, Go.Ground.chain⟩], none⟩) #[true, true, true, true, true, true, true, false, false, false, true, false, false] rfl rfl (by kernel_rfl) (by decide) (fun K hK => ?_)
                  rw [if_pos (by rfl)]
                  go_simp
                  (go_at_call 41; (with_reducible refine (HWho.out _ hHeld.2).mono ?_); rintro e6 W9 ⟨rfl, hX6, hV6⟩; (try have HZ := Lib.hid (HZ.out.o hV6)))
                  refine hK.out _ _ (⟨hHeld.1.o hV6, hX6⟩) (fun hHeld => ?_)
                  clear hK K
                  try simp only [Act.put, List.setIfInBounds_toArray, List.set_cons_zero, List.set_cons_succ]
                  refine pure_ (i := 7) (N := some 35) (v := ?_) (a' := ?_) #[true, true, true, true, true, true, true, true, false, false, true, false, false] rfl rfl (by kernel_rfl) (fun _ _ _ h => h) (Or.inl ⟨by rfl, ?_⟩) ?_ ?_
                  rotate_left
                  · intro w'
                    go_simp
                    (try with_reducible rfl)
                  rotate_left
                  · simp only [Act.put, List.setIfInBounds_toArray, List.set_cons_zero, List.set_cons_succ]
                    rfl
                  refine pure_ (i := 8) (N := some 43) (v := ?_) (a' := ?_) #[true, true, true, true, true, true, true, true, true, false, true, false, false] rfl rfl (by kernel_rfl) (fun _ _ _ h => h) (Or.inl ⟨by rfl, ?_⟩) ?_ ?_
                  rotate_left
                  · intro w'
                    go_simp
                    (try with_reducible rfl)
                  rotate_left
                  · simp only [Act.put, List.setIfInBounds_toArray, List.set_cons_zero, List.set_cons_succ]
                    rfl
                  refine pure_ (i := 9) (N := some 44) (v := ?_) (a' := ?_) #[true, true, true, true, true, true, true, true, true, true, true, false, false] rfl rfl (by kernel_rfl) (fun _ _ _ h => h) (Or.inl ⟨by rfl, ?_⟩) ?_ ?_
                  rotate_left
                  · intro w'
                    go_simp
                    (try with_reducible rfl)
                  rotate_left
                  · simp only [Act.put, List.setIfInBounds_toArray, List.set_cons_zero, List.set_cons_succ]
                    rfl
                  refine last_ (i := 11) (N := none) (oi := ⟨none, Go.Op.store 82 (Go.Operand.tmp 8) (Go.Operand.tmp 43), 0, "outright.go:120", #[⟨10, Go.Ground.data⟩, ⟨8, Go.Ground.data⟩, ⟨6, Go.Ground.chain⟩, ⟨0, Go.Ground.phase⟩, ⟨1, Go.Ground.phase⟩, ⟨2, Go.Ground.phase⟩, ⟨3, Go.Ground.phase⟩, ⟨4, Go.Ground.phase⟩, ⟨5, Go.Ground.phase⟩, ⟨6, Go.Ground.phase⟩, ⟨7, Go.Ground.phase⟩, ⟨8, Go.Ground.phase⟩, { on := 9, ground := Go.Ground.textOnly Go.Departure.lateStores }, ⟨10, Go.Ground.phase⟩], none⟩) #[true, true, true, true, true, true, true, true, true, true, true, true, false] rfl rfl (by kernel_rfl) (by decide) (fun K hK => ?_)
                  refine step_store_part _ (by rfl) rfl (.tmp 8) (.tmp 43) 82 rfl h 0 (#[.int .i64 y0, .int .i64 y1, .int .i64 y2]) rfl rfl size82 rfl 82 _ HZ.out (Nat.le_refl _) (#[.int .i64 y0, .int .i64 y1, .int .i64 y2]) rfl ?_
                  intro w7 hb7 hfr
                  have y0c : w7.cell? ⟨h, 0, none⟩ = some (.int .i64 y0) := hb7.cell 0
                  have y1c : w7.cell? ⟨h, 1, none⟩ = some (.int .i64 y1) := hb7.cell 1
                  have HX7 := Lib.hid (hHeld.1.away hfr hne)
                  have HO7 := Lib.hid (hHeld.2.fresh (Only.of_below (hfr.below hge) (Nat.le_refl _)))
                  clear hb7 hfr hHeld
                  refine hK.out _ _ ?_
                  clear hK K
                  try simp only [Act.put, List.setIfInBounds_toArray, List.set_cons_zero, List.set_cons_succ]
                  refine pure_ (i := 12) (N := some 9) (v := ?_) (a' := ?_) #[true, true, true, true, true, true, true, true, true, true, true, true, true] rfl rfl (by kernel_rfl) (fun _ _ _ h => h) (Or.inl ⟨by rfl, ?_⟩) ?_ ?_
                  rotate_left
                  · intro w'
                    go_simp
                    (try with_reducible rfl)
                  rotate_left
                  · simp only [Act.put, List.setIfInBounds_toArray, List.set_cons_zero, List.set_cons_succ]
                    rfl
                  refine done_ (by kernel_rfl) ?_
                rotate_left 1
                exact AllReadyL.nil
              rotate_left 2
              refine AllReadyL.cons (o := ⟨some 8, Go.Op.alloc 82, 0, "outright.go:120", #[], none⟩) rfl (by decide) (fun K hK => ?_) ?_
              focus
                refine step_alloc (by rfl) rfl (cs := #[.int .i64 0, .int .i64 0, .int .i64 0]) (t := 82) ?hr ?_
                (case hr => first | (go_simp; done) | (go_simp; rfl))
                intro h hh W7 hbox hO
                have HZ := Lib.hid hbox
                have hne : g ≠ h := (by rw [hh]; exact Nat.ne_of_lt hHeld.1.lt)
                have hge : W6.heap.size ≤ h := (by rw [hh]; exact hHeld.2.size)
                clear hh hbox
                refine hK.out _ _ (⟨hHeld.1.o hO, hHeld.2.thens hO⟩) (fun hHeld => ?_)
                clear hK K
                try simp only [Act.put, List.setIfInBounds_toArray, List.set_cons_zero, List.set_cons_succ]
                refine one_ (i := 4) (N := some 40) (oi := ⟨some 40, Go.Op.call ⟨Go.Callee.value (Go.Operand.func 21), #[Go.Operand.tmp 39, Go.Operand.const (Go.Value.int Go.IntKind.i64 0)], #[24, 3]⟩, 3, "outright.go:120", #[⟨3, Go.Ground.data⟩], none⟩) #[true, true, true, true, true, true, false, false, false, false, true, false, false] rfl rfl (by kernel_rfl) (by decide) (fun K hK => ?_)
                rw [if_pos (by rfl)]
                go_simp
                (go_at_call 21; (with_reducible refine (HNow0.out _ hHeld.2).mono ?_); rintro e5 W5 ⟨rfl, rfl⟩)
                refine hK.out _ _ (hHeld) (fun hHeld => ?_)
                clear hK K
                try simp only [Act.put, List.setIfInBounds_toArray, List.set_cons_zero, List.set_cons_succ]
                refine one_ (i := 6) (N := some 42) (oi := ⟨some 42, Go.Op.call ⟨Go.Callee.value (Go.Operand.func 41), #[Go.Operand.tmp 37, Go.Operand.tmp 40, Go.Operand.tmp 41], #[57, 3, 3]⟩, 83, "outright.go:120", #[⟨1, Go.Ground.data⟩, ⟨4, Go.Ground.data⟩, ⟨5, Go.Ground.data⟩, ⟨4, Go.Ground.chain⟩], none⟩) #[true, true, true, true, true, true, true, false, false, false, true, false, false] rfl rfl (by kernel_rfl) (by decide) (fun K hK => ?_)
                rw [if_pos (by rfl)]
                go_simp
                (go_at_call 41; (with_reducible refine (HWho.out _ hHeld.2).mono ?_); rintro e6 W9 ⟨rfl, hX6, hV6⟩; (try have HZ := Lib.hid (HZ.out.o hV6)))
                refine hK.out _ _ (⟨hHeld.1.o hV6, hX6⟩) (fun hHeld => ?_)
                clear hK K
                try simp only [Act.put, List.setIfInBounds_toArray, List.set_cons_zero, List.set_cons_succ]
                refine pure_ (i := 7) (N := some 35) (v := ?_) (a' := ?_) #[true, true, true, true, true, true, true, true, false, false, true, false, false] rfl rfl (by kernel_rfl) (fun _ _ _ h => h) (Or.inl ⟨by rfl, ?_⟩) ?_ ?_
                rotate_left
                · intro w'
                  go_simp
                  (try with_reducible rfl)
                rotate_left
                · simp only [Act.put, List.setIfInBounds_toArray, List.set_cons_zero, List.set_cons_succ]
                  rfl
                refine pure_ (i := 8) (N := some 43) (v := ?_) (a' := ?_) #[true, true, true, true, true, true, true, true, true, false, true, false, false] rfl rfl (by kernel_rfl) (fun _ _ _ h => h) (Or.inl ⟨by rfl, ?_⟩) ?_ ?_
                rotate_left
                · intro w'
                  go_simp
                  (try with_reducible rfl)
                rotate_left
                · simp only [Act.put, List.setIfInBounds_toArray, List.set_cons_zero, List.set_cons_succ]
                  rfl
                refine pure_ (i := 9) (N := some 44) (v := ?_) (a' := ?_) #[true, true, true, true, true, true, true, true, true, true, true, false, false] rfl rfl (by kernel_rfl) (fun _ _ _ h => h) (Or.inl ⟨by rfl, ?_⟩) ?_ ?_
                rotate_left
                · intro w'
                  go_simp
                  (try with_reducible rfl)
                rotate_left
                · simp only [Act.put, List.setIfInBounds_toArray, List.set_cons_zero, List.set_cons_succ]
                  rfl
                refine last_ (i := 11) (N := none) (oi := ⟨none, Go.Op.store 82 (Go.Operand.tmp 8) (Go.Operand.tmp 43), 0, "outright.go:120", #[⟨10, Go.Ground.data⟩, ⟨8, Go.Ground.data⟩, ⟨6, Go.Ground.chain⟩, ⟨0, Go.Ground.phase⟩, ⟨1, Go.Ground.phase⟩, ⟨2, Go.Ground.phase⟩, ⟨3, Go.Ground.phase⟩, ⟨4, Go.Ground.phase⟩, ⟨5, Go.Ground.phase⟩, ⟨6, Go.Ground.phase⟩, ⟨7, Go.Ground.phase⟩, ⟨8, Go.Ground.phase⟩, { on := 9, ground := Go.Ground.textOnly Go.Departure.lateStores }, ⟨10, Go.Ground.phase⟩], none⟩) #[true, true, true, true, true, true, true, true, true, true, true, true, false] rfl rfl (by kernel_rfl) (by decide) (fun K hK => ?_)
                refine step_store_part _ (by rfl) rfl (.tmp 8) (.tmp 43) 82 rfl h 0 (#[.int .i64 y0, .int .i64 y1, .int .i64 y2]) rfl rfl size82 rfl 82 _ HZ.out (Nat.le_refl _) (#[.int .i64 y0, .int .i64 y1, .int .i64 y2]) rfl ?_
                intro w7 hb7 hfr
                have y0c : w7.cell? ⟨h, 0, none⟩ = some (.int .i64 y0) := hb7.cell 0
                have y1c : w7.cell? ⟨h, 1, none⟩ = some (.int .i64 y1) := hb7.cell 1
                have HX7 := Lib.hid (hHeld.1.away hfr hne)
                have HO7 := Lib.hid (hHeld.2.fresh (Only.of_below (hfr.below hge) (Nat.le_refl _)))
                clear hb7 hfr hHeld
                refine hK.out _ _ ?_
                clear hK K
                try simp only [Act.put, List.setIfInBounds_toArray, List.set_cons_zero, List.set_cons_succ]
                refine pure_ (i := 12) (N := some 9) (v := ?_) (a' := ?_) #[true, true, true, true, true, true, true, true, true, true, true, true, true] rfl rfl (by kernel_rfl) (fun _ _ _ h => h) (Or.inl ⟨by rfl, ?_⟩) ?_ ?_
                rotate_left
                · intro w'
                  go_simp
                  (try with_reducible rfl)
                rotate_left
                · simp only [Act.put, List.setIfInBounds_toArray, List.set_cons_zero, List.set_cons_succ]
                  rfl
                refine done_ (by kernel_rfl) ?_
              rotate_left 1
              exact AllReadyL.nil
              all_goals
                have c23 : w7.cell? ⟨g, 23, none⟩ = some (.bool true) := (by rw [← hbg]; exact HX7.out.cell 23)
                have c1 : w7.cell? ⟨g, 1, none⟩ = some (.int .i64 x.s.epoch) := HX7.out.cell 1
                go_wp2_with fail
                go_roundw
                case rel => exact ⟨j + 1, 1, by go_num, by omega, by omega, rfl, .inr ⟨rfl, j, hj1, by omega, e, HBE.out⟩, Lib.hid ⟨HX7.out, HF.out.2.thens (HO6.out.thens HO7.out)⟩⟩
                case measure => simp [intOf]; omega
            | false =>
              obtain ⟨y1, y2, hwho, hle⟩ := HKN.out.2 hbg
              have hle2 : ¬ y1 < e := by omega
              have HWho : Hid (∀ V, Out W6 V → Calls Try.prog 41 #[.agg (sC x.s m), .int .i64 (x.c.N 0), .int .i64 (k : Int)] V fun e6 w' => e6 = .returned (.tuple #[.agg #[.int .i64 (j : Int), .int .i64 y1, .int .i64 y2], .bool true]) ∧ Out W6 w' ∧ Out V w') := Lib.hid (fun V hX => by
                have h := who_from hX (S := x.s) (ep := x.s.epoch) (qu := x.s.quiet) (now := x.c.N 0) HWD2.out.s HWF.out rfl
                rw [hwho] at h
                exact h)
              clear hwho hle
              go_wp2_with fail
              refine start_ (n := 13) (S := fun W' => Blk W' g 109 (WC x p m a b v term margin) ∧ Out W6 W') (ds := [11]) #[false, false, false, false, false, false, false, false, false, false, false, false, false] (by kernel_rfl) rfl rfl (⟨HX6.out.drew, (Only.refl _ _ _).drew⟩) (fun hHeld => ?_)
              refine pure_ (i := 0) (N := some 36) (v := ?_) (a' := ?_) #[true, false, false, false, false, false, false, false, false, false, false, false, false] rfl rfl (by kernel_rfl) (fun _ _ _ h => h) (Or.inl ⟨by rfl, ?_⟩) ?_ ?_
              rotate_left
              · intro w'
                go_simp
                (try with_reducible rfl)
              rotate_left
              · simp only [Act.put, List.setIfInBounds_toArray, List.set_cons_zero, List.set_cons_succ]
                rfl
              refine pure_ (i := 2) (N := some 38) (v := ?_) (a' := ?_) #[true, false, true, false, false, false, false, false, false, false, false, false, false] rfl rfl (by kernel_rfl) (fun _ _ _ h => h) (Or.inl ⟨by rfl, ?_⟩) ?_ ?_
              rotate_left
              · intro w'
                go_simp
                (try with_reducible rfl)
              rotate_left
              · simp only [Act.put, List.setIfInBounds_toArray, List.set_cons_zero, List.set_cons_succ]
                rfl
              refine pure_ (i := 5) (N := some 41) (v := ?_) (a' := ?_) #[true, false, true, false, false, true, false, false, false, false, false, false, false] rfl rfl (by kernel_rfl) (fun _ _ _ h => h) (Or.inl ⟨by rfl, ?_⟩) ?_ ?_
              rotate_left
              · intro w'
                go_simp
                (try with_reducible rfl)
              rotate_left
              · simp only [Act.put, List.setIfInBounds_toArray, List.set_cons_zero, List.set_cons_succ]
                rfl
              refine take_ (i := 1) (N := some 37) (v := ?_) (a' := ?_) #[true, true, true, false, false, true, false, false, false, false, false, false, false] rfl rfl (by kernel_rfl) (fun _ _ _ h => h) (Or.inl ⟨by rfl, ?_⟩) hHeld ?_ ?_
              rotate_left
              · intro w' s0
                obtain ⟨t1, t2⟩ := s0
                refine exec_load_part _ (.tmp 36) 57 ?_ g 1 (sC x.s m) ?_ agg57 size57 109 _ t1 ?_
                · rfl
                · (first | rfl | (simp [Act.eval]))
                · exact WC_s
              rotate_left
              · simp only [Act.put, List.setIfInBounds_toArray, List.set_cons_zero, List.set_cons_succ]
                rfl
              refine take_ (i := 3) (N := some 39) (v := ?_) (a' := ?_) #[true, true, true, true, false, true, false, false, false, false, false, false, false] rfl rfl (by kernel_rfl) (fun _ _ _ h => h) (Or.inl ⟨by rfl, ?_⟩) hHeld ?_ ?_
              rotate_left
              · intro w' s0
                obtain ⟨t1, t2⟩ := s0
                have c0 : w'.cell? ⟨g, 0, none⟩ = some (.pointer (some ⟨p, 0, none⟩)) := t1.cell 0
                go_simp
                (try with_reducible rfl)
              rotate_left
              · simp only [Act.put, List.setIfInBounds_toArray, List.set_cons_zero, List.set_cons_succ]
                rfl
              refine wpAnyLast_ready (rs := [4, 10]) (by kernel_rfl) (by simp) ?_
              refine AllReadyL.cons (o := ⟨some 40, Go.Op.call ⟨Go.Callee.value (Go.Operand.func 21), #[Go.Operand.tmp 39, Go.Operand.const (Go.Value.int Go.IntKind.i64 0)], #[24, 3]⟩, 3, "outright.go:120", #[⟨3, Go.Ground.data⟩], none⟩) rfl (by decide) (fun K hK => ?_) ?_
              focus
                rw [if_pos (by rfl)]
                go_simp
                (go_at_call 21; (with_reducible refine (HNow0.out _ hHeld.2).mono ?_); rintro e5 W5 ⟨rfl, rfl⟩)
                refine hK.out _ _ (hHeld) (fun hHeld => ?_)
                clear hK K
                try simp only [Act.put, List.setIfInBounds_toArray, List.set_cons_zero, List.set_cons_succ]
                refine wpAnyLast_ready (rs := [6, 10]) (by kernel_rfl) (by simp) ?_
                refine AllReadyL.cons (o := ⟨some 42, Go.Op.call ⟨Go.Callee.value (Go.Operand.func 41), #[Go.Operand.tmp 37, Go.Operand.tmp 40, Go.Operand.tmp 41], #[57, 3, 3]⟩, 83, "outright.go:120", #[⟨1, Go.Ground.data⟩, ⟨4, Go.Ground.data⟩, ⟨5, Go.Ground.data⟩, ⟨4, Go.Ground.chain⟩], none⟩) rfl (by decide) (fun K hK => ?_) ?_
                focus
                  rw [if_pos (by rfl)]
                  go_simp
                  (go_at_call 41; (with_reducible refine (HWho.out _ hHeld.2).mono ?_); rintro e6 W9 ⟨rfl, hX6, hV6⟩; (try have HZ := Lib.hid (HZ.out.o hV6)))
                  refine hK.out _ _ (⟨hHeld.1.o hV6, hX6⟩) (fun hHeld => ?_)
                  clear hK K
                  try simp only [Act.put, List.setIfInBounds_toArray, List.set_cons_zero, List.set_cons_succ]
                  refine pure_ (i := 7) (N := some 35) (v := ?_) (a' := ?_) #[true, true, true, true, true, true, true, true, false, false, false, false, false] rfl rfl (by kernel_rfl) (fun _ _ _ h => h) (Or.inl ⟨by rfl, ?_⟩) ?_ ?_
                  rotate_left
                  · intro w'
                    go_simp
                    (try with_reducible rfl)
                  rotate_left
                  · simp only [Act.put, List.setIfInBounds_toArray, List.set_cons_zero, List.set_cons_succ]
                    rfl
                  refine pure_ (i := 8) (N := some 43) (v := ?_) (a' := ?_) #[true, true, true, true, true, true, true, true, true, false, false, false, false] rfl rfl (by kernel_rfl) (fun _ _ _ h => h) (Or.inl ⟨by rfl, ?_⟩) ?_ ?_
                  rotate_left
                  · intro w'
                    go_simp
                    (try with_reducible rfl)
                  rotate_left
                  · simp only [Act.put, List.setIfInBounds_toArray, List.set_cons_zero, List.set_cons_succ]
                    rfl
                  refine pure_ (i := 9) (N := some 44) (v := ?_) (a' := ?_) #[true, true, true, true, true, true, true, true, true, true, false, false, false] rfl rfl (by kernel_rfl) (fun _ _ _ h => h) (Or.inl ⟨by rfl, ?_⟩) ?_ ?_
                  rotate_left
                  · intro w'
                    go_simp
                    (try with_reducible rfl)
                  rotate_left
                  · simp only [Act.put, List.setIfInBounds_toArray, List.set_cons_zero, List.set_cons_succ]
                    rfl
                  refine one_ (i := 10) (N := some 8) (oi := ⟨some 8, Go.Op.alloc 82, 0, "outright.go:120", #[], none⟩) #[true, true, true, true, true, true, true, true, true, true, true, false, false] rfl rfl (by kernel_rfl) (by decide) (fun K hK => ?_)
                  refine step_alloc (by rfl) rfl (cs := #[.int .i64 0, .int .i64 0, .int .i64 0]) (t := 82) ?hr ?_
                  (case hr => first | (go_simp; done) | (go_simp; rfl))
                  intro h hh W7 hbox hO
                  have HZ := Lib.hid hbox
                  have hne : g ≠ h := (by rw [hh]; exact Nat.ne_of_lt hHeld.1.lt)
                  have hge : W6.heap.size ≤ h := (by rw [hh]; exact hHeld.2.size)
                  clear hh hbox
                  refine hK.out _ _ (⟨hHeld.1.o hO, hHeld.2.thens hO⟩) (fun hHeld => ?_)
                  clear hK K
                  try simp only [Act.put, List.setIfInBounds_toArray, List.set_cons_zero, List.set_cons_succ]
                  refine last_ (i := 11) (N := none) (oi := ⟨none, Go.Op.store 82 (Go.Operand.tmp 8) (Go.Operand.tmp 43), 0, "outright.go:120", #[⟨10, Go.Ground.data⟩, ⟨8, Go.Ground.data⟩, ⟨6, Go.Ground.chain⟩, ⟨0, Go.Ground.phase⟩, ⟨1, Go.Ground.phase⟩, ⟨2, Go.Ground.phase⟩, ⟨3, Go.Ground.phase⟩, ⟨4, Go.Ground.phase⟩, ⟨5, Go.Ground.phase⟩, ⟨6, Go.Ground.phase⟩, ⟨7, Go.Ground.phase⟩, ⟨8, Go.Ground.phase⟩, { on := 9, ground := Go.Ground.textOnly Go.Departure.lateStores }, ⟨10, Go.Ground.phase⟩], none⟩) #[true, true, true, true, true, true, true, true, true, true, true, true, false] rfl rfl (by kernel_rfl) (by decide) (fun K hK => ?_)
                  refine step_store_part _ (by rfl) rfl (.tmp 8) (.tmp 43) 82 rfl h 0 (#[.int .i64 (j : Int), .int .i64 y1, .int .i64 y2]) rfl rfl size82 rfl 82 _ HZ.out (Nat.le_refl _) (#[.int .i64 (j : Int), .int .i64 y1, .int .i64 y2]) rfl ?_
                  intro w7 hb7 hfr
                  have y0c : w7.cell? ⟨h, 0, none⟩ = some (.int .i64 (j : Int)) := hb7.cell 0
                  have y1c : w7.cell? ⟨h, 1, none⟩ = some (.int .i64 y1) := hb7.cell 1
                  have HX7 := Lib.hid (hHeld.1.away hfr hne)
                  have HO7 := Lib.hid (hHeld.2.fresh (Only.of_below (hfr.below hge) (Nat.le_refl _)))
                  clear hb7 hfr hHeld
                  refine hK.out _ _ ?_
                  clear hK K
                  try simp only [Act.put, List.setIfInBounds_toArray, List.set_cons_zero, List.set_cons_succ]
                  refine pure_ (i := 12) (N := some 9) (v := ?_) (a' := ?_) #[true, true, true, true, true, true, true, true, true, true, true, true, true] rfl rfl (by kernel_rfl) (fun _ _ _ h => h) (Or.inl ⟨by rfl, ?_⟩) ?_ ?_
                  rotate_left
                  · intro w'
                    go_simp
                    (try with_reducible rfl)
                  rotate_left
                  · simp only [Act.put, List.setIfInBounds_toArray, List.set_cons_zero, List.set_cons_succ]
                    rfl
                  refine done_ (by kernel_rfl) ?_
                rotate_left 1
                refine AllReadyL.cons (o := ⟨some 8, Go.Op.alloc 82, 0, "outright.go:120", #[], none⟩) rfl (by decide) (fun K hK => ?_) ?_
                focus
                  refine step_alloc (by rfl) rfl (cs := #[.int .i64 0, .int .i64 0, .int .i64 0]) (t := 82) ?hr ?_
                  (case hr => first | (go_simp; done) | (go_simp; rfl))
                  intro h hh W7 hbox hO
                  have HZ := Lib.hid hbox
                  have hne : g ≠ h := (by rw [hh]; exact Nat.ne_of_lt hHeld.1.lt)
                  have hge : W6.heap.size ≤ h := (by rw [hh]; exact hHeld.2.size)
                  clear hh hbox
                  refine hK.out _ _ (⟨hHeld.1.o hO, hHeld.2.thens hO⟩) (fun hHeld => ?_)
                  clear hK K
                  try simp only [Act.put, List.setIfInBounds_toArray, List.set_cons_zero, List.set_cons_succ]
                  refine one_ (i := 6) (N := some 42) (oi := ⟨some 42, Go.Op.call ⟨Go.Callee.value (Go.Operand.func 41), #[Go.Operand.tmp 37, Go.Operand.tmp 40, Go.Operand.tmp 41], #[57, 3, 3]⟩, 83, "outright.go:120", #[⟨1, Go.Ground.data⟩, ⟨4, Go.Ground.data⟩, ⟨5, Go.Ground.data⟩, ⟨4, Go.Ground.chain⟩], none⟩) #[true, true, true, true, true, true, true, false, false, false, true, false, false] rfl rfl (by kernel_rfl) (by decide) (fun K hK => ?_)
                  rw [if_pos (by rfl)]
                  go_simp
                  (go_at_call 41; (with_reducible refine (HWho.out _ hHeld.2).mono ?_); rintro e6 W9 ⟨rfl, hX6, hV6⟩; (try have HZ := Lib.hid (HZ.out.o hV6)))
                  refine hK.out _ _ (⟨hHeld.1.o hV6, hX6⟩) (fun hHeld => ?_)
                  clear hK K
                  try simp only [Act.put, List.setIfInBounds_toArray, List.set_cons_zero, List.set_cons_succ]
                  refine pure_ (i := 7) (N := some 35) (v := ?_) (a' := ?_) #[true, true, true, true, true, true, true, true, false, false, true, false, false] rfl rfl (by kernel_rfl) (fun _ _ _ h => h) (Or.inl ⟨by rfl, ?_⟩) ?_ ?_
                  rotate_left
                  · intro w'
                    go_simp
                    (try with_reducible rfl)
                  rotate_left
                  · simp only [Act.put, List.setIfInBounds_toArray, List.set_cons_zero, List.set_cons_succ]
                    rfl
                  refine pure_ (i := 8) (N := some 43) (v := ?_) (a' := ?_) #[true, true, true, true, true, true, true, true, true, false, true, false, false] rfl rfl (by kernel_rfl) (fun _ _ _ h => h) (Or.inl ⟨by rfl, ?_⟩) ?_ ?_
                  rotate_left
                  · intro w'
                    go_simp
                    (try with_reducible rfl)
                  rotate_left
                  · simp only [Act.put, List.setIfInBounds_toArray, List.set_cons_zero, List.set_cons_succ]
                    rfl
                  refine pure_ (i := 9) (N := some 44) (v := ?_) (a' := ?_) #[true, true, true, true, true, true, true, true, true, true, true, false, false] rfl rfl (by kernel_rfl) (fun _ _ _ h => h) (Or.inl ⟨by rfl, ?_⟩) ?_ ?_
                  rotate_left
                  · intro w'
                    go_simp
                    (try with_reducible rfl)
                  rotate_left
                  · simp only [Act.put, List.setIfInBounds_toArray, List.set_cons_zero, List.set_cons_succ]
                    rfl
                  refine last_ (i := 11) (N := none) (oi := ⟨none, Go.Op.store 82 (Go.Operand.tmp 8) (Go.Operand.tmp 43), 0, "outright.go:120", #[⟨10, Go.Ground.data⟩, ⟨8, Go.Ground.data⟩, ⟨6, Go.Ground.chain⟩, ⟨0, Go.Ground.phase⟩, ⟨1, Go.Ground.phase⟩, ⟨2, Go.Ground.phase⟩, ⟨3, Go.Ground.phase⟩, ⟨4, Go.Ground.phase⟩, ⟨5, Go.Ground.phase⟩, ⟨6, Go.Ground.phase⟩, ⟨7, Go.Ground.phase⟩, ⟨8, Go.Ground.phase⟩, { on := 9, ground := Go.Ground.textOnly Go.Departure.lateStores }, ⟨10, Go.Ground.phase⟩], none⟩) #[true, true, true, true, true, true, true, true, true, true, true, true, false] rfl rfl (by kernel_rfl) (by decide) (fun K hK => ?_)
                  refine step_store_part _ (by rfl) rfl (.tmp 8) (.tmp 43) 82 rfl h 0 (#[.int .i64 (j : Int), .int .i64 y1, .int .i64 y2]) rfl rfl size82 rfl 82 _ HZ.out (Nat.le_refl _) (#[.int .i64 (j : Int), .int .i64 y1, .int .i64 y2]) rfl ?_
                  intro w7 hb7 hfr
                  have y0c : w7.cell? ⟨h, 0, none⟩ = some (.int .i64 (j : Int)) := hb7.cell 0
                  have y1c : w7.cell? ⟨h, 1, none⟩ = some (.int .i64 y1) := hb7.cell 1
                  have HX7 := Lib.hid (hHeld.1.away hfr hne)
                  have HO7 := Lib.hid (hHeld.2.fresh (Only.of_below (hfr.below hge) (Nat.le_refl _)))
                  clear hb7 hfr hHeld
                  refine hK.out _ _ ?_
                  clear hK K
                  try simp only [Act.put, List.setIfInBounds_toArray, List.set_cons_zero, List.set_cons_succ]
                  refine pure_ (i := 12) (N := some 9) (v := ?_) (a' := ?_) #[true, true, true, true, true, true, true, true, true, true, true, true, true] rfl rfl (by kernel_rfl) (fun _ _ _ h => h) (Or.inl ⟨by rfl, ?_⟩) ?_ ?_
                  rotate_left
                  · intro w'
                    go_simp
                    (try with_reducible rfl)
                  rotate_left
                  · simp only [Act.put, List.setIfInBounds_toArray, List.set_cons_zero, List.set_cons_succ]
                    rfl
                  refine done_ (by kernel_rfl) ?_
                rotate_left 1
                exact AllReadyL.nil
              rotate_left 2
              refine AllReadyL.cons (o := ⟨some 8, Go.Op.alloc 82, 0, "outright.go:120", #[], none⟩) rfl (by decide) (fun K hK => ?_) ?_
              focus
                refine step_alloc (by rfl) rfl (cs := #[.int .i64 0, .int .i64 0, .int .i64 0]) (t := 82) ?hr ?_
                (case hr => first | (go_simp; done) | (go_simp; rfl))
                intro h hh W7 hbox hO
                have HZ := Lib.hid hbox
                have hne : g ≠ h := (by rw [hh]; exact Nat.ne_of_lt hHeld.1.lt)
                have hge : W6.heap.size ≤ h := (by rw [hh]; exact hHeld.2.size)
                clear hh hbox
                refine hK.out _ _ (⟨hHeld.1.o hO, hHeld.2.thens hO⟩) (fun hHeld => ?_)
                clear hK K
                try simp only [Act.put, List.setIfInBounds_toArray, List.set_cons_zero, List.set_cons_succ]
                refine one_ (i := 4) (N := some 40) (oi := ⟨some 40, Go.Op.call ⟨Go.Callee.value (Go.Operand.func 21), #[Go.Operand.tmp 39, Go.Operand.const (Go.Value.int Go.IntKind.i64 0)], #[24, 3]⟩, 3, "outright.go:120", #[⟨3, Go.Ground.data⟩], none⟩) #[true, true, true, true, true, true, false, false, false, false, true, false, false] rfl rfl (by kernel_rfl) (by decide) (fun K hK => ?_)
                rw [if_pos (by rfl)]
                go_simp
                (go_at_call 21; (with_reducible refine (HNow0.out _ hHeld.2).mono ?_); rintro e5 W5 ⟨rfl, rfl⟩)
                refine hK.out _ _ (hHeld) (fun hHeld => ?_)
                clear hK K
                try simp only [Act.put, List.setIfInBounds_toArray, List.set_cons_zero, List.set_cons_succ]
                refine one_ (i := 6) (N := some 42) (oi := ⟨some 42, Go.Op.call ⟨Go.Callee.value (Go.Operand.func 41), #[Go.Operand.tmp 37, Go.Operand.tmp 40, Go.Operand.tmp 41], #[57, 3, 3]⟩, 83, "outright.go:120", #[⟨1, Go.Ground.data⟩, ⟨4, Go.Ground.data⟩, ⟨5, Go.Ground.data⟩, ⟨4, Go.Ground.chain⟩], none⟩) #[true, true, true, true, true, true, true, false, false, false, true, false, false] rfl rfl (by kernel_rfl) (by decide) (fun K hK => ?_)
                rw [if_pos (by rfl)]
                go_simp
                (go_at_call 41; (with_reducible refine (HWho.out _ hHeld.2).mono ?_); rintro e6 W9 ⟨rfl, hX6, hV6⟩; (try have HZ := Lib.hid (HZ.out.o hV6)))
                refine hK.out _ _ (⟨hHeld.1.o hV6, hX6⟩) (fun hHeld => ?_)
                clear hK K
                try simp only [Act.put, List.setIfInBounds_toArray, List.set_cons_zero, List.set_cons_succ]
                refine pure_ (i := 7) (N := some 35) (v := ?_) (a' := ?_) #[true, true, true, true, true, true, true, true, false, false, true, false, false] rfl rfl (by kernel_rfl) (fun _ _ _ h => h) (Or.inl ⟨by rfl, ?_⟩) ?_ ?_
                rotate_left
                · intro w'
                  go_simp
                  (try with_reducible rfl)
                rotate_left
                · simp only [Act.put, List.setIfInBounds_toArray, List.set_cons_zero, List.set_cons_succ]
                  rfl
                refine pure_ (i := 8) (N := some 43) (v := ?_) (a' := ?_) #[true, true, true, true, true, true, true, true, true, false, true, false, false] rfl rfl (by kernel_rfl) (fun _ _ _ h => h) (Or.inl ⟨by rfl, ?_⟩) ?_ ?_
                rotate_left
                · intro w'
                  go_simp
                  (try with_reducible rfl)
                rotate_left
                · simp only [Act.put, List.setIfInBounds_toArray, List.set_cons_zero, List.set_cons_succ]
                  rfl
                refine pure_ (i := 9) (N := some 44) (v := ?_) (a' := ?_) #[true, true, true, true, true, true, true, true, true, true, true, false, false] rfl rfl (by kernel_rfl) (fun _ _ _ h => h) (Or.inl ⟨by rfl, ?_⟩) ?_ ?_
                rotate_left
                · intro w'
                  go_simp
                  (try with_reducible rfl)
                rotate_left
                · simp only [Act.put, List.setIfInBounds_toArray, List.set_cons_zero, List.set_cons_succ]
                  rfl
                refine last_ (i := 11) (N := none) (oi := ⟨none, Go.Op.store 82 (Go.Operand.tmp 8) (Go.Operand.tmp 43), 0, "outright.go:120", #[⟨10, Go.Ground.data⟩, ⟨8, Go.Ground.data⟩, ⟨6, Go.Ground.chain⟩, ⟨0, Go.Ground.phase⟩, ⟨1, Go.Ground.phase⟩, ⟨2, Go.Ground.phase⟩, ⟨3, Go.Ground.phase⟩, ⟨4, Go.Ground.phase⟩, ⟨5, Go.Ground.phase⟩, ⟨6, Go.Ground.phase⟩, ⟨7, Go.Ground.phase⟩, ⟨8, Go.Ground.phase⟩, { on := 9, ground := Go.Ground.textOnly Go.Departure.lateStores }, ⟨10, Go.Ground.phase⟩], none⟩) #[true, true, true, true, true, true, true, true, true, true, true, true, false] rfl rfl (by kernel_rfl) (by decide) (fun K hK => ?_)
                refine step_store_part _ (by rfl) rfl (.tmp 8) (.tmp 43) 82 rfl h 0 (#[.int .i64 (j : Int), .int .i64 y1, .int .i64 y2]) rfl rfl size82 rfl 82 _ HZ.out (Nat.le_refl _) (#[.int .i64 (j : Int), .int .i64 y1, .int .i64 y2]) rfl ?_
                intro w7 hb7 hfr
                have y0c : w7.cell? ⟨h, 0, none⟩ = some (.int .i64 (j : Int)) := hb7.cell 0
                have y1c : w7.cell? ⟨h, 1, none⟩ = some (.int .i64 y1) := hb7.cell 1
                have HX7 := Lib.hid (hHeld.1.away hfr hne)
                have HO7 := Lib.hid (hHeld.2.fresh (Only.of_below (hfr.below hge) (Nat.le_refl _)))
                clear hb7 hfr hHeld
                refine hK.out _ _ ?_
                clear hK K
                try simp only [Act.put, List.setIfInBounds_toArray, List.set_cons_zero, List.set_cons_succ]
                refine pure_ (i := 12) (N := some 9) (v := ?_) (a' := ?_) #[true, true, true, true, true, true, true, true, true, true, true, true, true] rfl rfl (by kernel_rfl) (fun _ _ _ h => h) (Or.inl ⟨by rfl, ?_⟩) ?_ ?_
                rotate_left
                · intro w'
                  go_simp
                  (try with_reducible rfl)
                rotate_left
                · simp only [Act.put, List.setIfInBounds_toArray, List.set_cons_zero, List.set_cons_succ]
                  rfl
                refine done_ (by kernel_rfl) ?_
              rotate_left 1
              exact AllReadyL.nil
              all_goals
                have c23 : w7.cell? ⟨g, 23, none⟩ = some (.bool false) := (by rw [← hbg]; exact HX7.out.cell 23)
                have c1 : w7.cell? ⟨g, 1, none⟩ = some (.int .i64 x.s.epoch) := HX7.out.cell 1
                go_wp2_with fail
                go_roundw
                case rel => exact ⟨j + 1, 1, by go_num, by omega, by omega, rfl, .inr ⟨rfl, j, hj1, by omega, e, HBE.out⟩, Lib.hid ⟨HX7.out, HF.out.2.thens (HO6.out.thens HO7.out)⟩⟩
                case measure => simp [intOf]; omega
        · obtain rfl : j = 4 := by omega
          have hn1 : ¬ (1 : Int) < n := by rcases hn with h | h <;> omega
          go_wp2_with fail
          go_roundw
          case rel => exact ⟨k + 1, by go_num, by have := HLT.out; omega, HF⟩
          case measure => have := HLT.out; simp [intOf]; omega
    · obtain rfl : k = 2 := by omega
      go_wp2_with fail
      go_ret
      exact ⟨rfl, HF.out.2⟩
end Go.Proofs.Ytefllgpehhlkoaa.Mar
namespace Go.Proofs.Ytefllgpehhlkoaa.Mar
open Go.RowKit Go.Maps Go.Proofs.YtefllgpehhlkoaaW.PrintWords Go.Proofs.YtefllgpehhlkoaaW.PrintLast
set_option linter.unusedVariables false
set_option linter.unusedSimpArgs false

def Z24 : Array Value := #[.pointer none, .int .i64 0, .int .i64 0, .map none, .int .i64 0, .int .i64 0, .map none, .map none, .int .i64 0, .int .i64 0, .map none, .map none, .int .i64 0, .int .i64 0, .map none, .map none, .int .i64 0, .int .i64 0, .map none, .map none, .slice none 0 0, .int .i64 0, .int .i64 0, .bool false]
set_option maxRecDepth 100000 in
set_option maxHeartbeats 8000000 in
theorem come0 (w : World) (lo p : Nat) (x : MW) (mm : Word) (m : Option Nat) (a b : Nat → Option Nat) (v : Value) (term margin : Int) (hk : Wd2 w lo p x m a b v) (hh : 1 ≤ mm.holder ∧ mm.holder ≤ 3) (hp : (Lit.int .i64 mm.place).wf = true) (h1 : mm.kind ≠ 1) (h2 : mm.kind ≠ 2) (h3 : mm.kind ≠ 3) (h4 : mm.kind ≠ 4) :
    Calls Try.prog 65 #[.agg (WC x p m a b v term margin), .agg (wC mm)] w (Hands w lo p x term margin) := by
  obtain ⟨hh1, hh3⟩ := hh
  have k1 : (mm.kind == 1) = false := beq_eq_false_iff_ne.2 h1
  have k2 : (mm.kind == 2) = false := beq_eq_false_iff_ne.2 h2
  have k3 : (mm.kind == 3) = false := beq_eq_false_iff_ne.2 h3
  have k4 : (mm.kind == 4) = false := beq_eq_false_iff_ne.2 h4
  have HKW := Lib.hid hk
  have HKP := Lib.hid hp
  have HLow := Lib.hid hk.full
  have hh4 : mm.holder < 4 := by omega
  have hhI : (mm.holder : Int) < 4 := by omega
  have hh0 : ¬ (mm.holder : Int) < 0 := by omega
  have hu41 := Try.underlying41
  have hu57 := Try.underlying57
  have hu106 := Try.underlying106
  have hu107 := Try.underlying107
  have hu141 := Try.underlying141
  have HB0 := Lib.hid (Only.refl w.heap.size w.heap.size w)
  clear hk hp
  go_enter Try.func65, Try.ntmps65
  go_wp2_with (first
    | ((with_reducible refine gate_dst (N := 2) rfl ?_); refine box_event rfl (N := 2) rfl (cs := (WC x p m a b v term margin)) (t := 109) ?hr ?_; (case hr => first | (go_simp; done) | (go_simp; rfl)); intro g hg W1 hbox hb; have HE1 : Hid (Ed w W1 g lo p x m a b v term margin) := Lib.hid ⟨hbox, HKW.out.kept (Out.of hb), Out.of hb, (by rw [hg]; exact Nat.le_refl _), HLow.out⟩; clear hg hbox hb)
    | ((with_reducible refine gate_dst (N := 3) rfl ?_); refine box_event rfl (N := 3) rfl (cs := wC mm) (t := 141) ?hr ?_; (case hr => first | (go_simp; done) | (go_simp; rfl)); intro q hq W2 hbox hb; have HQ2 := Lib.hid (show Blk W2 q 141 (wC mm) from hbox); have HE2 := Lib.hid (HE1.out.o (Out.of hb)); have hgq : g ≠ q := (by rw [hq]; exact Nat.ne_of_lt HE1.out.blk.lt); clear hq hbox hb)
    | ((with_reducible refine gate_dst (N := 4) rfl ?_); refine box_event rfl (N := 4) rfl (cs := Z24) (t := 109) ?hr ?_; (case hr => first | (go_simp; done) | (go_simp; rfl)); intro r hr W3 hbox hb; have HR := Lib.hid (show Blk W3 r 109 Z24 from hbox); have HE := Lib.hid (HE2.out.o (Out.of hb)); have HQ := Lib.hid (HQ2.out.o (Out.of hb)); have hgr : g ≠ r := (by rw [hr]; exact Nat.ne_of_lt HE2.out.blk.lt); have hrw : w.heap.size ≤ r := (by rw [hr]; exact HE2.out.out.size); have HNow : Hid (∀ V, Out W3 V → Calls Try.prog 21 #[.pointer (some ⟨p, 0, none⟩), .int .i64 (mm.holder : Int)] V fun e w' => e = .returned (.int .i64 (x.c.N mm.holder)) ∧ V = w') := Lib.hid (fun V hX => now_some V lo (lo + 4) p 4 x.c (HE.out.wd.kept hX).clk mm.holder (by decide) hh4); have c0 : W3.cell? ⟨g, 0, none⟩ = some (.pointer (some ⟨p, 0, none⟩)) := HE.out.blk.cell 0; have q1 : W3.cell? ⟨q, 1, none⟩ = some (.int .i64 (mm.holder : Int)) := HQ.out.cell 1; have q0 : W3.cell? ⟨q, 0, none⟩ = some (.int .i64 mm.kind) := HQ.out.cell 0; clear hr hbox hb HE1 HE2 HQ2)
    | (go_at_call 21; (with_reducible refine (HNow.out _ (Only.refl _ _ _)).mono ?_); rintro e5 W5 ⟨rfl, rfl⟩)
    | ((with_reducible refine gate_dst (N := 127) rfl ?_); refine wpList_load_part _ rfl (.tmp 2) 109 rfl g 0 (WC x p m a b v term margin) rfl agg109 size109 109 _ HE.out.blk (fun j u hj => (by rw [Nat.zero_add]; simpa using hj)) ?_)
    | (refine wpList_store_part _ rfl (.tmp 4) (.tmp 127) 109 rfl r 0 (WC x p m a b v term margin) rfl rfl size109 HE.out.wd.one 109 _ HR.out (Nat.le_refl _) (WC x p m a b v term margin) rfl ?_; intro w9 hb9 hfr9; have HR9 := Lib.hid hb9; have HE9 := Lib.hid (HE.out.away HR.out (by decide) hrw hgr hfr9); clear hb9 hfr9)
    | fail)
  exact bodyPost_ret (results_blk1 Try.results65 _ _ r (WC x p m a b v term margin) rfl agg109 size109 HR9.out) rfl ⟨_, _, _, _, rfl, HE9.out.wd, HE9.out.out⟩
set_option maxRecDepth 100000 in
set_option maxHeartbeats 8000000 in
theorem come2 (w : World) (lo p : Nat) (x : MW) (mm : Word) (m : Option Nat) (a b : Nat → Option Nat) (v : Value) (term margin : Int) (hk : Wd2 w lo p x m a b v) (hh : 1 ≤ mm.holder ∧ mm.holder ≤ 3) (hp : (Lit.int .i64 mm.place).wf = true) (hkd : mm.kind = 2) (hsz : (x.hs mm.holder).has.length < 1000000) :
    Calls Try.prog 65 #[.agg (WC x p m a b v term margin), .agg (wC mm)] w (Hands w lo p { x with hs := setH x.hs mm.holder (grantH (x.hs mm.holder) (x.c.N mm.holder) term margin mm.place mm.num mm.epoch).1 } term margin) := by
  obtain ⟨hh1, hh3⟩ := hh
  have HKW := Lib.hid hk
  have HKP := Lib.hid hp
  have HLow := Lib.hid hk.full
  have hh4 : mm.holder < 4 := by omega
  have hhI : (mm.holder : Int) < 4 := by omega
  have hh0 : ¬ (mm.holder : Int) < 0 := by omega
  have hu41 := Try.underlying41
  have hu57 := Try.underlying57
  have hu106 := Try.underlying106
  have hu107 := Try.underlying107
  have hu141 := Try.underlying141
  have HB0 := Lib.hid (Only.refl w.heap.size w.heap.size w)
  clear hk hp
  go_enter Try.func65, Try.ntmps65
  go_wp2_with (first
    | ((with_reducible refine gate_dst (N := 2) rfl ?_); refine box_event rfl (N := 2) rfl (cs := (WC x p m a b v term margin)) (t := 109) ?hr ?_; (case hr => first | (go_simp; done) | (go_simp; rfl)); intro g hg W1 hbox hb; have HE1 : Hid (Ed w W1 g lo p x m a b v term margin) := Lib.hid ⟨hbox, HKW.out.kept (Out.of hb), Out.of hb, (by rw [hg]; exact Nat.le_refl _), HLow.out⟩; clear hg hbox hb)
    | ((with_reducible refine gate_dst (N := 3) rfl ?_); refine box_event rfl (N := 3) rfl (cs := wC mm) (t := 141) ?hr ?_; (case hr => first | (go_simp; done) | (go_simp; rfl)); intro q hq W2 hbox hb; have HQ2 := Lib.hid (show Blk W2 q 141 (wC mm) from hbox); have HE2 := Lib.hid (HE1.out.o (Out.of hb)); have hgq : g ≠ q := (by rw [hq]; exact Nat.ne_of_lt HE1.out.blk.lt); clear hq hbox hb)
    | ((with_reducible refine gate_dst (N := 4) rfl ?_); refine box_event rfl (N := 4) rfl (cs := Z24) (t := 109) ?hr ?_; (case hr => first | (go_simp; done) | (go_simp; rfl)); intro r hr W3 hbox hb; have HR := Lib.hid (show Blk W3 r 109 Z24 from hbox); have HE := Lib.hid (HE2.out.o (Out.of hb)); have HQ := Lib.hid (HQ2.out.o (Out.of hb)); have hgr : g ≠ r := (by rw [hr]; exact Nat.ne_of_lt HE2.out.blk.lt); have hrw : w.heap.size ≤ r := (by rw [hr]; exact HE2.out.out.size); have HNow : Hid (∀ V, Out W3 V → Calls Try.prog 21 #[.pointer (some ⟨p, 0, none⟩), .int .i64 (mm.holder : Int)] V fun e w' => e = .returned (.int .i64 (x.c.N mm.holder)) ∧ V = w') := Lib.hid (fun V hX => now_some V lo (lo + 4) p 4 x.c (HE.out.wd.kept hX).clk mm.holder (by decide) hh4); have c0 : W3.cell? ⟨g, 0, none⟩ = some (.pointer (some ⟨p, 0, none⟩)) := HE.out.blk.cell 0; have q1 : W3.cell? ⟨q, 1, none⟩ = some (.int .i64 (mm.holder : Int)) := HQ.out.cell 1; have q0 : W3.cell? ⟨q, 0, none⟩ = some (.int .i64 2) := (by rw [← hkd]; exact HQ.out.cell 0); clear hr hbox hb HE1 HE2 HQ2)
    | (go_at_call 21; (with_reducible refine (HNow.out _ (Only.refl _ _ _)).mono ?_); rintro e5 W5 ⟨rfl, rfl⟩)
    | fail)
  have HS3 := Lib.hid HE.out.out.size

  have HSz := Lib.hid hsz
  have HGr : Hid (∀ V, Out W3 V → Calls Try.prog 27 #[.agg (hC (x.hs mm.holder) (a mm.holder) (b mm.holder)), .int .i64 (x.c.N mm.holder), .agg #[.int .i64 term, .int .i64 margin], .int .i64 mm.place, .int .i64 mm.num, .int .i64 mm.epoch] V fun e w' => ∃ n1 n2, e = .returned (.tuple #[.agg (hC (grantH (x.hs mm.holder) (x.c.N mm.holder) term margin mm.place mm.num mm.epoch).1 n1 n2), .int .i64 (grantH (x.hs mm.holder) (x.c.N mm.holder) term margin mm.place mm.num mm.epoch).2]) ∧ (MapIs pairE w' n1 (grantH (x.hs mm.holder) (x.c.N mm.holder) term margin mm.place mm.num mm.epoch).1.wants ∧ MapIs pairE w' n2 (grantH (x.hs mm.holder) (x.c.N mm.holder) term margin mm.place mm.num mm.epoch).1.has) ∧ Out W3 w' ∧ Out V w') := Lib.hid (fun V hX => granted_from hX (HE.out.wd.hw mm.holder) (HE.out.wd.hh mm.holder) rfl rfl rfl rfl HKP.out HSz.out rfl)
  go_wp2_with fail
  refine start_ (n := 21) (S := fun W' => Blk W' g 109 (WC x p m a b v term margin) ∧ Blk W' q 141 (wC mm) ∧ Out W3 W') (ds := [19]) #[false, false, false, false, false, false, false, false, false, false, false, false, false, false, false, false, false, false, false, false, false] (by kernel_rfl) rfl rfl (⟨HE.out.blk.drew, HQ.out.drew, (Only.refl _ _ _).drew⟩) (fun hHeld => ?_)
  refine pure_ (i := 0) (N := some 66) (v := ?_) (a' := ?_) #[true, false, false, false, false, false, false, false, false, false, false, false, false, false, false, false, false, false, false, false, false] rfl rfl (by kernel_rfl) (fun _ _ _ h => h) (Or.inl ⟨by rfl, ?_⟩) ?_ ?_
  rotate_left
  · intro w'
    go_simp
    (try with_reducible rfl)
  rotate_left
  · simp only [Act.put, List.setIfInBounds_toArray, List.set_cons_zero, List.set_cons_succ]
    rfl
  refine pure_ (i := 2) (N := some 68) (v := ?_) (a' := ?_) #[true, false, true, false, false, false, false, false, false, false, false, false, false, false, false, false, false, false, false, false, false] rfl rfl (by kernel_rfl) (fun _ _ _ h => h) (Or.inl ⟨by rfl, ?_⟩) ?_ ?_
  rotate_left
  · intro w'
    go_simp
    (try with_reducible rfl)
  rotate_left
  · simp only [Act.put, List.setIfInBounds_toArray, List.set_cons_zero, List.set_cons_succ]
    rfl
  refine pure_ (i := 5) (N := some 71) (v := ?_) (a' := ?_) #[true, false, true, false, false, true, false, false, false, false, false, false, false, false, false, false, false, false, false, false, false] rfl rfl (by kernel_rfl) (fun _ _ _ h => h) (Or.inl ⟨by rfl, ?_⟩) ?_ ?_
  rotate_left
  · intro w'
    go_simp
    (try with_reducible rfl)
  rotate_left
  · simp only [Act.put, List.setIfInBounds_toArray, List.set_cons_zero, List.set_cons_succ]
    rfl
  refine pure_ (i := 6) (N := some 72) (v := ?_) (a' := ?_) #[true, false, true, false, false, true, true, false, false, false, false, false, false, false, false, false, false, false, false, false, false] rfl rfl (by kernel_rfl) (fun _ _ _ h => h) (Or.inl ⟨by rfl, ?_⟩) ?_ ?_
  rotate_left
  · intro w'
    go_simp
    (try with_reducible rfl)
  rotate_left
  · simp only [Act.put, List.setIfInBounds_toArray, List.set_cons_zero, List.set_cons_succ]
    rfl
  refine pure_ (i := 8) (N := some 74) (v := ?_) (a' := ?_) #[true, false, true, false, false, true, true, false, true, false, false, false, false, false, false, false, false, false, false, false, false] rfl rfl (by kernel_rfl) (fun _ _ _ h => h) (Or.inl ⟨by rfl, ?_⟩) ?_ ?_
  rotate_left
  · intro w'
    go_simp
    (try with_reducible rfl)
  rotate_left
  · simp only [Act.put, List.setIfInBounds_toArray, List.set_cons_zero, List.set_cons_succ]
    rfl
  refine pure_ (i := 10) (N := some 76) (v := ?_) (a' := ?_) #[true, false, true, false, false, true, true, false, true, false, true, false, false, false, false, false, false, false, false, false, false] rfl rfl (by kernel_rfl) (fun _ _ _ h => h) (Or.inl ⟨by rfl, ?_⟩) ?_ ?_
  rotate_left
  · intro w'
    go_simp
    (try with_reducible rfl)
  rotate_left
  · simp only [Act.put, List.setIfInBounds_toArray, List.set_cons_zero, List.set_cons_succ]
    rfl
  refine pure_ (i := 12) (N := some 78) (v := ?_) (a' := ?_) #[true, false, true, false, false, true, true, false, true, false, true, false, true, false, false, false, false, false, false, false, false] rfl rfl (by kernel_rfl) (fun _ _ _ h => h) (Or.inl ⟨by rfl, ?_⟩) ?_ ?_
  rotate_left
  · intro w'
    go_simp
    (try with_reducible rfl)
  rotate_left
  · simp only [Act.put, List.setIfInBounds_toArray, List.set_cons_zero, List.set_cons_succ]
    rfl
  refine take_ (i := 1) (N := some 67) (v := ?_) (a' := ?_) #[true, true, true, false, false, true, true, false, true, false, true, false, true, false, false, false, false, false, false, false, false] rfl rfl (by kernel_rfl) (fun _ _ _ h => h) (Or.inl ⟨by rfl, ?_⟩) hHeld ?_ ?_
  rotate_left
  · intro w' s0
    obtain ⟨t1, t2, t3⟩ := s0
    have c0 : w'.cell? ⟨q, 1, none⟩ = some (.int .i64 (mm.holder : Int)) := t2.cell 1
    go_simp
    (try with_reducible rfl)
  rotate_left
  · simp only [Act.put, List.setIfInBounds_toArray, List.set_cons_zero, List.set_cons_succ]
    rfl
  refine pure_ (i := 3) (N := some 69) (v := ?_) (a' := ?_) #[true, true, true, true, false, true, true, false, true, false, true, false, true, false, false, false, false, false, false, false, false] rfl rfl (by kernel_rfl) (fun _ _ _ h => h) (Or.inl ⟨by rfl, ?_⟩) ?_ ?_
  rotate_left
  · intro w'
    go_simp
    (try with_reducible rfl)
  rotate_left
  · simp only [Act.put, List.setIfInBounds_toArray, List.set_cons_zero, List.set_cons_succ]
    rfl
  refine take_ (i := 4) (N := some 70) (v := ?_) (a' := ?_) #[true, true, true, true, true, true, true, false, true, false, true, false, true, false, false, false, false, false, false, false, false] rfl rfl (by kernel_rfl) (fun _ _ _ h => h) (Or.inl ⟨by rfl, ?_⟩) hHeld ?_ ?_
  rotate_left
  · intro w' s0
    obtain ⟨t1, t2, t3⟩ := s0
    refine exec_load_part _ (.tmp 69) 41 ?_ g (4 + mm.holder * 4) (hC (x.hs mm.holder) (a mm.holder) (b mm.holder)) ?_ agg41 size41 109 _ t1 ?_
    · rfl
    · (first | rfl | (simp [Act.eval]))
    · exact WC_h mm.holder hh4
  rotate_left
  · simp only [Act.put, List.setIfInBounds_toArray, List.set_cons_zero, List.set_cons_succ]
    rfl
  refine take_ (i := 7) (N := some 73) (v := ?_) (a' := ?_) #[true, true, true, true, true, true, true, true, true, false, true, false, true, false, false, false, false, false, false, false, false] rfl rfl (by kernel_rfl) (fun _ _ _ h => h) (Or.inl ⟨by rfl, ?_⟩) hHeld ?_ ?_
  rotate_left
  · intro w' s0
    obtain ⟨t1, t2, t3⟩ := s0
    refine exec_load_part _ (.tmp 72) 37 ?_ g 21 #[.int .i64 term, .int .i64 margin] ?_ agg37 size37 109 _ t1 ?_
    · rfl
    · (first | rfl | (simp [Act.eval]))
    · exact WC_plan
  rotate_left
  · simp only [Act.put, List.setIfInBounds_toArray, List.set_cons_zero, List.set_cons_succ]
    rfl
  refine take_ (i := 9) (N := some 75) (v := ?_) (a' := ?_) #[true, true, true, true, true, true, true, true, true, true, true, false, true, false, false, false, false, false, false, false, false] rfl rfl (by kernel_rfl) (fun _ _ _ h => h) (Or.inl ⟨by rfl, ?_⟩) hHeld ?_ ?_
  rotate_left
  · intro w' s0
    obtain ⟨t1, t2, t3⟩ := s0
    have c0 : w'.cell? ⟨q, 2, none⟩ = some (.int .i64 mm.place) := t2.cell 2
    go_simp
    (try with_reducible rfl)
  rotate_left
  · simp only [Act.put, List.setIfInBounds_toArray, List.set_cons_zero, List.set_cons_succ]
    rfl
  refine take_ (i := 11) (N := some 77) (v := ?_) (a' := ?_) #[true, true, true, true, true, true, true, true, true, true, true, true, true, false, false, false, false, false, false, false, false] rfl rfl (by kernel_rfl) (fun _ _ _ h => h) (Or.inl ⟨by rfl, ?_⟩) hHeld ?_ ?_
  rotate_left
  · intro w' s0
    obtain ⟨t1, t2, t3⟩ := s0
    have c0 : w'.cell? ⟨q, 3, none⟩ = some (.int .i64 mm.num) := t2.cell 3
    go_simp
    (try with_reducible rfl)
  rotate_left
  · simp only [Act.put, List.setIfInBounds_toArray, List.set_cons_zero, List.set_cons_succ]
    rfl
  refine take_ (i := 13) (N := some 79) (v := ?_) (a' := ?_) #[true, true, true, true, true, true, true, true, true, true, true, true, true, true, false, false, false, false, false, false, false] rfl rfl (by kernel_rfl) (fun _ _ _ h => h) (Or.inl ⟨by rfl, ?_⟩) hHeld ?_ ?_
  rotate_left
  · intro w' s0
    obtain ⟨t1, t2, t3⟩ := s0
    have c0 : w'.cell? ⟨q, 4, none⟩ = some (.int .i64 mm.epoch) := t2.cell 4
    go_simp
    (try with_reducible rfl)
  rotate_left
  · simp only [Act.put, List.setIfInBounds_toArray, List.set_cons_zero, List.set_cons_succ]
    rfl
  refine wpAnyLast_ready (rs := [14, 18]) (by kernel_rfl) (by simp) ?_
  refine AllReadyL.cons (o := ⟨some 80, Go.Op.call ⟨Go.Callee.value (Go.Operand.func 27), #[Go.Operand.tmp 70, Go.Operand.tmp 71, Go.Operand.tmp 73, Go.Operand.tmp 75, Go.Operand.tmp 77, Go.Operand.tmp 79], #[41, 3, 37, 3, 3, 3]⟩, 44, "outright.go:58", #[⟨4, Go.Ground.data⟩, ⟨5, Go.Ground.data⟩, ⟨7, Go.Ground.data⟩, ⟨9, Go.Ground.data⟩, ⟨11, Go.Ground.data⟩, ⟨13, Go.Ground.data⟩], none⟩) rfl (by decide) (fun K hK => ?_) ?_
  focus
    rw [if_pos (by rfl)]
    go_simp
    (go_at_call 27; (with_reducible refine (HGr.out _ hHeld.2.2).mono ?_); rintro e6 W9 ⟨n1, n2, rfl, ⟨hm1, hm2⟩, hX6, hV6⟩; have HM1 := Lib.hid hm1; have HM2 := Lib.hid hm2; clear hm1 hm2; (try have HZ := Lib.hid (HZ.out.o hV6)))
    refine hK.out _ _ (⟨hHeld.1.o hV6, hHeld.2.1.o hV6, hX6⟩) (fun hHeld => ?_)
    clear hK K
    try simp only [Act.put, List.setIfInBounds_toArray, List.set_cons_zero, List.set_cons_succ]
    refine pure_ (i := 15) (N := some 65) (v := ?_) (a' := ?_) #[true, true, true, true, true, true, true, true, true, true, true, true, true, true, true, true, false, false, false, false, false] rfl rfl (by kernel_rfl) (fun _ _ _ h => h) (Or.inl ⟨by rfl, ?_⟩) ?_ ?_
    rotate_left
    · intro w'
      go_simp
      (try with_reducible rfl)
    rotate_left
    · simp only [Act.put, List.setIfInBounds_toArray, List.set_cons_zero, List.set_cons_succ]
      rfl
    refine pure_ (i := 16) (N := some 81) (v := ?_) (a' := ?_) #[true, true, true, true, true, true, true, true, true, true, true, true, true, true, true, true, true, false, false, false, false] rfl rfl (by kernel_rfl) (fun _ _ _ h => h) (Or.inl ⟨by rfl, ?_⟩) ?_ ?_
    rotate_left
    · intro w'
      go_simp
      (try with_reducible rfl)
    rotate_left
    · simp only [Act.put, List.setIfInBounds_toArray, List.set_cons_zero, List.set_cons_succ]
      rfl
    refine pure_ (i := 17) (N := some 82) (v := ?_) (a' := ?_) #[true, true, true, true, true, true, true, true, true, true, true, true, true, true, true, true, true, true, false, false, false] rfl rfl (by kernel_rfl) (fun _ _ _ h => h) (Or.inl ⟨by rfl, ?_⟩) ?_ ?_
    rotate_left
    · intro w'
      go_simp
      (try with_reducible rfl)
    rotate_left
    · simp only [Act.put, List.setIfInBounds_toArray, List.set_cons_zero, List.set_cons_succ]
      rfl
    refine one_ (i := 18) (N := some 10) (oi := ⟨some 10, Go.Op.alloc 41, 0, "outright.go:58", #[], none⟩) #[true, true, true, true, true, true, true, true, true, true, true, true, true, true, true, true, true, true, true, false, false] rfl rfl (by kernel_rfl) (by decide) (fun K hK => ?_)
    refine step_alloc (by rfl) rfl (cs := #[.int .i64 0, .int .i64 0, .map none, .map none]) (t := 41) ?hr ?_
    (case hr => first | (go_simp; done) | (go_simp; rfl))
    intro h hh W7 hbox hO
    have HZ := Lib.hid hbox
    have hne : g ≠ h := (by rw [hh]; exact Nat.ne_of_lt hHeld.1.lt)
    have hneq : q ≠ h := (by rw [hh]; exact Nat.ne_of_lt hHeld.2.1.lt)
    have hge : W3.heap.size ≤ h := (by rw [hh]; exact hHeld.2.2.size)
    (try have HM1 := Lib.hid (mapIs_out HM1.out hO)); (try have HM2 := Lib.hid (mapIs_out HM2.out hO))
    clear hh hbox
    refine hK.out _ _ (⟨hHeld.1.o hO, hHeld.2.1.o hO, hHeld.2.2.thens hO⟩) (fun hHeld => ?_)
    clear hK K
    try simp only [Act.put, List.setIfInBounds_toArray, List.set_cons_zero, List.set_cons_succ]
    refine last_ (i := 19) (N := none) (oi := ⟨none, Go.Op.store 41 (Go.Operand.tmp 10) (Go.Operand.tmp 81), 0, "outright.go:58", #[⟨18, Go.Ground.data⟩, ⟨16, Go.Ground.data⟩, ⟨14, Go.Ground.chain⟩, ⟨0, Go.Ground.phase⟩, ⟨1, Go.Ground.phase⟩, ⟨2, Go.Ground.phase⟩, ⟨3, Go.Ground.phase⟩, ⟨4, Go.Ground.phase⟩, ⟨5, Go.Ground.phase⟩, ⟨6, Go.Ground.phase⟩, ⟨7, Go.Ground.phase⟩, ⟨8, Go.Ground.phase⟩, ⟨9, Go.Ground.phase⟩, ⟨10, Go.Ground.phase⟩, ⟨11, Go.Ground.phase⟩, ⟨12, Go.Ground.phase⟩, ⟨13, Go.Ground.phase⟩, ⟨14, Go.Ground.phase⟩, ⟨15, Go.Ground.phase⟩, ⟨16, Go.Ground.phase⟩, { on := 17, ground := Go.Ground.textOnly Go.Departure.lateStores }, ⟨18, Go.Ground.phase⟩], none⟩) #[true, true, true, true, true, true, true, true, true, true, true, true, true, true, true, true, true, true, true, true, false] rfl rfl (by kernel_rfl) (by decide) (fun K hK => ?_)
    refine step_store_part _ (by rfl) rfl (.tmp 10) (.tmp 81) 41 rfl h 0 ((hC (grantH (x.hs mm.holder) (x.c.N mm.holder) term margin mm.place mm.num mm.epoch).1 n1 n2)) rfl rfl size41 rfl 41 _ HZ.out (Nat.le_refl _) ((hC (grantH (x.hs mm.holder) (x.c.N mm.holder) term margin mm.place mm.num mm.epoch).1 n1 n2)) rfl ?_
    intro w7 hb7 hfr
    have HY7 := Lib.hid hb7
    have HQ7 := Lib.hid (hHeld.2.1.away hfr hneq)
    have HE7 := Lib.hid ((HE.out.o hHeld.2.2).away HZ.out (by decide) (Nat.le_trans HS3.out hge) hne hfr)
    have HR7 := Lib.hid ((HR.out.o hHeld.2.2).away hfr (Nat.ne_of_lt (Nat.lt_of_lt_of_le HR.out.lt hge)))
    have HM1 := Lib.hid (mapIs_far HM1.out HZ.out hfr)
    have HM2 := Lib.hid (mapIs_far HM2.out HZ.out hfr)
    have q1 : w7.cell? ⟨q, 1, none⟩ = some (.int .i64 (mm.holder : Int)) := HQ7.out.cell 1
    clear hb7 hfr hHeld
    refine hK.out _ _ ?_
    clear hK K
    try simp only [Act.put, List.setIfInBounds_toArray, List.set_cons_zero, List.set_cons_succ]
    refine pure_ (i := 20) (N := some 11) (v := ?_) (a' := ?_) #[true, true, true, true, true, true, true, true, true, true, true, true, true, true, true, true, true, true, true, true, true] rfl rfl (by kernel_rfl) (fun _ _ _ h => h) (Or.inl ⟨by rfl, ?_⟩) ?_ ?_
    rotate_left
    · intro w'
      go_simp
      (try with_reducible rfl)
    rotate_left
    · simp only [Act.put, List.setIfInBounds_toArray, List.set_cons_zero, List.set_cons_succ]
      rfl
    refine done_ (by kernel_rfl) ?_
  rotate_left 1
  refine AllReadyL.cons (o := ⟨some 10, Go.Op.alloc 41, 0, "outright.go:58", #[], none⟩) rfl (by decide) (fun K hK => ?_) ?_
  focus
    refine step_alloc (by rfl) rfl (cs := #[.int .i64 0, .int .i64 0, .map none, .map none]) (t := 41) ?hr ?_
    (case hr => first | (go_simp; done) | (go_simp; rfl))
    intro h hh W7 hbox hO
    have HZ := Lib.hid hbox
    have hne : g ≠ h := (by rw [hh]; exact Nat.ne_of_lt hHeld.1.lt)
    have hneq : q ≠ h := (by rw [hh]; exact Nat.ne_of_lt hHeld.2.1.lt)
    have hge : W3.heap.size ≤ h := (by rw [hh]; exact hHeld.2.2.size)
    (try have HM1 := Lib.hid (mapIs_out HM1.out hO)); (try have HM2 := Lib.hid (mapIs_out HM2.out hO))
    clear hh hbox
    refine hK.out _ _ (⟨hHeld.1.o hO, hHeld.2.1.o hO, hHeld.2.2.thens hO⟩) (fun hHeld => ?_)
    clear hK K
    try simp only [Act.put, List.setIfInBounds_toArray, List.set_cons_zero, List.set_cons_succ]
    refine one_ (i := 14) (N := some 80) (oi := ⟨some 80, Go.Op.call ⟨Go.Callee.value (Go.Operand.func 27), #[Go.Operand.tmp 70, Go.Operand.tmp 71, Go.Operand.tmp 73, Go.Operand.tmp 75, Go.Operand.tmp 77, Go.Operand.tmp 79], #[41, 3, 37, 3, 3, 3]⟩, 44, "outright.go:58", #[⟨4, Go.Ground.data⟩, ⟨5, Go.Ground.data⟩, ⟨7, Go.Ground.data⟩, ⟨9, Go.Ground.data⟩, ⟨11, Go.Ground.data⟩, ⟨13, Go.Ground.data⟩], none⟩) #[true, true, true, true, true, true, true, true, true, true, true, true, true, true, true, false, false, false, true, false, false] rfl rfl (by kernel_rfl) (by decide) (fun K hK => ?_)
    rw [if_pos (by rfl)]
    go_simp
    (go_at_call 27; (with_reducible refine (HGr.out _ hHeld.2.2).mono ?_); rintro e6 W9 ⟨n1, n2, rfl, ⟨hm1, hm2⟩, hX6, hV6⟩; have HM1 := Lib.hid hm1; have HM2 := Lib.hid hm2; clear hm1 hm2; (try have HZ := Lib.hid (HZ.out.o hV6)))
    refine hK.out _ _ (⟨hHeld.1.o hV6, hHeld.2.1.o hV6, hX6⟩) (fun hHeld => ?_)
    clear hK K
    try simp only [Act.put, List.setIfInBounds_toArray, List.set_cons_zero, List.set_cons_succ]
    refine pure_ (i := 15) (N := some 65) (v := ?_) (a' := ?_) #[true, true, true, true, true, true, true, true, true, true, true, true, true, true, true, true, false, false, true, false, false] rfl rfl (by kernel_rfl) (fun _ _ _ h => h) (Or.inl ⟨by rfl, ?_⟩) ?_ ?_
    rotate_left
    · intro w'
      go_simp
      (try with_reducible rfl)
    rotate_left
    · simp only [Act.put, List.setIfInBounds_toArray, List.set_cons_zero, List.set_cons_succ]
      rfl
    refine pure_ (i := 16) (N := some 81) (v := ?_) (a' := ?_) #[true, true, true, true, true, true, true, true, true, true, true, true, true, true, true, true, true, false, true, false, false] rfl rfl (by kernel_rfl) (fun _ _ _ h => h) (Or.inl ⟨by rfl, ?_⟩) ?_ ?_
    rotate_left
    · intro w'
      go_simp
      (try with_reducible rfl)
    rotate_left
    · simp only [Act.put, List.setIfInBounds_toArray, List.set_cons_zero, List.set_cons_succ]
      rfl
    refine pure_ (i := 17) (N := some 82) (v := ?_) (a' := ?_) #[true, true, true, true, true, true, true, true, true, true, true, true, true, true, true, true, true, true, true, false, false] rfl rfl (by kernel_rfl) (fun _ _ _ h => h) (Or.inl ⟨by rfl, ?_⟩) ?_ ?_
    rotate_left
    · intro w'
      go_simp
      (try with_reducible rfl)
    rotate_left
    · simp only [Act.put, List.setIfInBounds_toArray, List.set_cons_zero, List.set_cons_succ]
      rfl
    refine last_ (i := 19) (N := none) (oi := ⟨none, Go.Op.store 41 (Go.Operand.tmp 10) (Go.Operand.tmp 81), 0, "outright.go:58", #[⟨18, Go.Ground.data⟩, ⟨16, Go.Ground.data⟩, ⟨14, Go.Ground.chain⟩, ⟨0, Go.Ground.phase⟩, ⟨1, Go.Ground.phase⟩, ⟨2, Go.Ground.phase⟩, ⟨3, Go.Ground.phase⟩, ⟨4, Go.Ground.phase⟩, ⟨5, Go.Ground.phase⟩, ⟨6, Go.Ground.phase⟩, ⟨7, Go.Ground.phase⟩, ⟨8, Go.Ground.phase⟩, ⟨9, Go.Ground.phase⟩, ⟨10, Go.Ground.phase⟩, ⟨11, Go.Ground.phase⟩, ⟨12, Go.Ground.phase⟩, ⟨13, Go.Ground.phase⟩, ⟨14, Go.Ground.phase⟩, ⟨15, Go.Ground.phase⟩, ⟨16, Go.Ground.phase⟩, { on := 17, ground := Go.Ground.textOnly Go.Departure.lateStores }, ⟨18, Go.Ground.phase⟩], none⟩) #[true, true, true, true, true, true, true, true, true, true, true, true, true, true, true, true, true, true, true, true, false] rfl rfl (by kernel_rfl) (by decide) (fun K hK => ?_)
    refine step_store_part _ (by rfl) rfl (.tmp 10) (.tmp 81) 41 rfl h 0 ((hC (grantH (x.hs mm.holder) (x.c.N mm.holder) term margin mm.place mm.num mm.epoch).1 n1 n2)) rfl rfl size41 rfl 41 _ HZ.out (Nat.le_refl _) ((hC (grantH (x.hs mm.holder) (x.c.N mm.holder) term margin mm.place mm.num mm.epoch).1 n1 n2)) rfl ?_
    intro w7 hb7 hfr
    have HY7 := Lib.hid hb7
    have HQ7 := Lib.hid (hHeld.2.1.away hfr hneq)
    have HE7 := Lib.hid ((HE.out.o hHeld.2.2).away HZ.out (by decide) (Nat.le_trans HS3.out hge) hne hfr)
    have HR7 := Lib.hid ((HR.out.o hHeld.2.2).away hfr (Nat.ne_of_lt (Nat.lt_of_lt_of_le HR.out.lt hge)))
    have HM1 := Lib.hid (mapIs_far HM1.out HZ.out hfr)
    have HM2 := Lib.hid (mapIs_far HM2.out HZ.out hfr)
    have q1 : w7.cell? ⟨q, 1, none⟩ = some (.int .i64 (mm.holder : Int)) := HQ7.out.cell 1
    clear hb7 hfr hHeld
    refine hK.out _ _ ?_
    clear hK K
    try simp only [Act.put, List.setIfInBounds_toArray, List.set_cons_zero, List.set_cons_succ]
    refine pure_ (i := 20) (N := some 11) (v := ?_) (a' := ?_) #[true, true, true, true, true, true, true, true, true, true, true, true, true, true, true, true, true, true, true, true, true] rfl rfl (by kernel_rfl) (fun _ _ _ h => h) (Or.inl ⟨by rfl, ?_⟩) ?_ ?_
    rotate_left
    · intro w'
      go_simp
      (try with_reducible rfl)
    rotate_left
    · simp only [Act.put, List.setIfInBounds_toArray, List.set_cons_zero, List.set_cons_succ]
      rfl
    refine done_ (by kernel_rfl) ?_
  rotate_left 1
  exact AllReadyL.nil
  all_goals
    have hfit : 4 + mm.holder * 4 + (hC (grantH (x.hs mm.holder) (x.c.N mm.holder) term margin mm.place mm.num mm.epoch).1 n1 n2).size ≤ (WC x p m a b v term margin).size := (by show 4 + mm.holder * 4 + 4 ≤ 24; omega)
    go_wp2_with (first
        | ((with_reducible refine gate_dst (N := 85) rfl ?_); refine wpList_load_part _ rfl (.tmp 10) 41 rfl h 0 (hC (grantH (x.hs mm.holder) (x.c.N mm.holder) term margin mm.place mm.num mm.epoch).1 n1 n2) rfl agg41 size41 41 _ HY7.out (fun j u hj => (by rw [Nat.zero_add]; simpa using hj)) ?_)
        | (refine wpList_store_part _ rfl (.tmp 87) (.tmp 85) 41 rfl g (4 + mm.holder * 4) (hC (grantH (x.hs mm.holder) (x.c.N mm.holder) term margin mm.place mm.num mm.epoch).1 n1 n2) (by simp [Act.eval]) rfl size41 rfl 109 _ HE7.out.blk hfit (WC { x with hs := setH x.hs mm.holder (grantH (x.hs mm.holder) (x.c.N mm.holder) term margin mm.place mm.num mm.epoch).1 } p m (updN a mm.holder n1) (updN b mm.holder n2) v term margin) (WC_setH mm.holder hh4 (grantH (x.hs mm.holder) (x.c.N mm.holder) term margin mm.place mm.num mm.epoch).1 n1 n2) ?_; intro w8 hb8 hfr8; have HR8 := Lib.hid (HR7.out.away hfr8 hgr.symm); have HE8 := Lib.hid (HE7.out.withH mm.holder HM1.out HM2.out hb8 hfr8); clear hb8 hfr8)
        | ((with_reducible refine gate_dst (N := 127) rfl ?_); refine wpList_load_part _ rfl (.tmp 2) 109 rfl g 0 (WC { x with hs := setH x.hs mm.holder (grantH (x.hs mm.holder) (x.c.N mm.holder) term margin mm.place mm.num mm.epoch).1 } p m (updN a mm.holder n1) (updN b mm.holder n2) v term margin) rfl agg109 size109 109 _ HE8.out.blk (fun j u hj => (by rw [Nat.zero_add]; simpa using hj)) ?_)
        | (refine wpList_store_part _ rfl (.tmp 4) (.tmp 127) 109 rfl r 0 (WC { x with hs := setH x.hs mm.holder (grantH (x.hs mm.holder) (x.c.N mm.holder) term margin mm.place mm.num mm.epoch).1 } p m (updN a mm.holder n1) (updN b mm.holder n2) v term margin) rfl rfl size109 HE8.out.wd.one 109 _ HR8.out (Nat.le_refl _) (WC { x with hs := setH x.hs mm.holder (grantH (x.hs mm.holder) (x.c.N mm.holder) term margin mm.place mm.num mm.epoch).1 } p m (updN a mm.holder n1) (updN b mm.holder n2) v term margin) rfl ?_; intro w9 hb9 hfr9; have HR9 := Lib.hid hb9; have HE9 := Lib.hid (HE8.out.away HR8.out (by decide) hrw hgr hfr9); clear hb9 hfr9)
        | fail)
    exact bodyPost_ret (results_blk1 Try.results65 _ _ r (WC { x with hs := setH x.hs mm.holder (grantH (x.hs mm.holder) (x.c.N mm.holder) term margin mm.place mm.num mm.epoch).1 } p m (updN a mm.holder n1) (updN b mm.holder n2) v term margin) rfl agg109 size109 HR9.out) rfl ⟨_, _, _, _, rfl, HE9.out.wd, HE9.out.out⟩
set_option maxRecDepth 100000 in
set_option maxHeartbeats 8000000 in
theorem come3 (w : World) (lo p : Nat) (x : MW) (mm : Word) (m : Option Nat) (a b : Nat → Option Nat) (v : Value) (term margin : Int) (hk : Wd2 w lo p x m a b v) (hh : 1 ≤ mm.holder ∧ mm.holder ≤ 3) (hp : (Lit.int .i64 mm.place).wf = true) (hkd : mm.kind = 3) :
    Calls Try.prog 65 #[.agg (WC x p m a b v term margin), .agg (wC mm)] w (Hands w lo p { x with hs := setH x.hs mm.holder (denyH (x.hs mm.holder) mm.place mm.num).1 } term margin) := by
  obtain ⟨hh1, hh3⟩ := hh
  have HKW := Lib.hid hk
  have HKP := Lib.hid hp
  have HLow := Lib.hid hk.full
  have hh4 : mm.holder < 4 := by omega
  have hhI : (mm.holder : Int) < 4 := by omega
  have hh0 : ¬ (mm.holder : Int) < 0 := by omega
  have hu41 := Try.underlying41
  have hu57 := Try.underlying57
  have hu106 := Try.underlying106
  have hu107 := Try.underlying107
  have hu141 := Try.underlying141
  have HB0 := Lib.hid (Only.refl w.heap.size w.heap.size w)
  clear hk hp
  go_enter Try.func65, Try.ntmps65
  go_wp2_with (first
    | ((with_reducible refine gate_dst (N := 2) rfl ?_); refine box_event rfl (N := 2) rfl (cs := (WC x p m a b v term margin)) (t := 109) ?hr ?_; (case hr => first | (go_simp; done) | (go_simp; rfl)); intro g hg W1 hbox hb; have HE1 : Hid (Ed w W1 g lo p x m a b v term margin) := Lib.hid ⟨hbox, HKW.out.kept (Out.of hb), Out.of hb, (by rw [hg]; exact Nat.le_refl _), HLow.out⟩; clear hg hbox hb)
    | ((with_reducible refine gate_dst (N := 3) rfl ?_); refine box_event rfl (N := 3) rfl (cs := wC mm) (t := 141) ?hr ?_; (case hr => first | (go_simp; done) | (go_simp; rfl)); intro q hq W2 hbox hb; have HQ2 := Lib.hid (show Blk W2 q 141 (wC mm) from hbox); have HE2 := Lib.hid (HE1.out.o (Out.of hb)); have hgq : g ≠ q := (by rw [hq]; exact Nat.ne_of_lt HE1.out.blk.lt); clear hq hbox hb)
    | ((with_reducible refine gate_dst (N := 4) rfl ?_); refine box_event rfl (N := 4) rfl (cs := Z24) (t := 109) ?hr ?_; (case hr => first | (go_simp; done) | (go_simp; rfl)); intro r hr W3 hbox hb; have HR := Lib.hid (show Blk W3 r 109 Z24 from hbox); have HE := Lib.hid (HE2.out.o (Out.of hb)); have HQ := Lib.hid (HQ2.out.o (Out.of hb)); have hgr : g ≠ r := (by rw [hr]; exact Nat.ne_of_lt HE2.out.blk.lt); have hrw : w.heap.size ≤ r := (by rw [hr]; exact HE2.out.out.size); have HNow : Hid (∀ V, Out W3 V → Calls Try.prog 21 #[.pointer (some ⟨p, 0, none⟩), .int .i64 (mm.holder : Int)] V fun e w' => e = .returned (.int .i64 (x.c.N mm.holder)) ∧ V = w') := Lib.hid (fun V hX => now_some V lo (lo + 4) p 4 x.c (HE.out.wd.kept hX).clk mm.holder (by decide) hh4); have c0 : W3.cell? ⟨g, 0, none⟩ = some (.pointer (some ⟨p, 0, none⟩)) := HE.out.blk.cell 0; have q1 : W3.cell? ⟨q, 1, none⟩ = some (.int .i64 (mm.holder : Int)) := HQ.out.cell 1; have q0 : W3.cell? ⟨q, 0, none⟩ = some (.int .i64 3) := (by rw [← hkd]; exact HQ.out.cell 0); clear hr hbox hb HE1 HE2 HQ2)
    | (go_at_call 21; (with_reducible refine (HNow.out _ (Only.refl _ _ _)).mono ?_); rintro e5 W5 ⟨rfl, rfl⟩)
    | fail)
  have HS3 := Lib.hid HE.out.out.size
  have HDn : Hid (∀ V, Out W3 V → Calls Try.prog 44 #[.agg (hC (x.hs mm.holder) (a mm.holder) (b mm.holder)), .int .i64 mm.place, .int .i64 mm.num] V fun e w' => ∃ n1 n2, e = .returned (.tuple #[.agg (hC (denyH (x.hs mm.holder) mm.place mm.num).1 n1 n2), .int .i64 (denyH (x.hs mm.holder) mm.place mm.num).2]) ∧ (MapIs pairE w' n1 (denyH (x.hs mm.holder) mm.place mm.num).1.wants ∧ MapIs pairE w' n2 (denyH (x.hs mm.holder) mm.place mm.num).1.has) ∧ Out W3 w' ∧ Out V w') := Lib.hid (fun V hX => denied_from hX (HE.out.wd.hw mm.holder) (HE.out.wd.hh mm.holder) rfl rfl rfl rfl HKP.out rfl)
  go_wp2_with fail
  refine start_ (n := 16) (S := fun W' => Blk W' g 109 (WC x p m a b v term margin) ∧ Blk W' q 141 (wC mm) ∧ Out W3 W') (ds := [14]) #[false, false, false, false, false, false, false, false, false, false, false, false, false, false, false, false] (by kernel_rfl) rfl rfl (⟨HE.out.blk.drew, HQ.out.drew, (Only.refl _ _ _).drew⟩) (fun hHeld => ?_)
  refine pure_ (i := 0) (N := some 91) (v := ?_) (a' := ?_) #[true, false, false, false, false, false, false, false, false, false, false, false, false, false, false, false] rfl rfl (by kernel_rfl) (fun _ _ _ h => h) (Or.inl ⟨by rfl, ?_⟩) ?_ ?_
  rotate_left
  · intro w'
    go_simp
    (try with_reducible rfl)
  rotate_left
  · simp only [Act.put, List.setIfInBounds_toArray, List.set_cons_zero, List.set_cons_succ]
    rfl
  refine pure_ (i := 2) (N := some 93) (v := ?_) (a' := ?_) #[true, false, true, false, false, false, false, false, false, false, false, false, false, false, false, false] rfl rfl (by kernel_rfl) (fun _ _ _ h => h) (Or.inl ⟨by rfl, ?_⟩) ?_ ?_
  rotate_left
  · intro w'
    go_simp
    (try with_reducible rfl)
  rotate_left
  · simp only [Act.put, List.setIfInBounds_toArray, List.set_cons_zero, List.set_cons_succ]
    rfl
  refine pure_ (i := 5) (N := some 96) (v := ?_) (a' := ?_) #[true, false, true, false, false, true, false, false, false, false, false, false, false, false, false, false] rfl rfl (by kernel_rfl) (fun _ _ _ h => h) (Or.inl ⟨by rfl, ?_⟩) ?_ ?_
  rotate_left
  · intro w'
    go_simp
    (try with_reducible rfl)
  rotate_left
  · simp only [Act.put, List.setIfInBounds_toArray, List.set_cons_zero, List.set_cons_succ]
    rfl
  refine pure_ (i := 7) (N := some 98) (v := ?_) (a' := ?_) #[true, false, true, false, false, true, false, true, false, false, false, false, false, false, false, false] rfl rfl (by kernel_rfl) (fun _ _ _ h => h) (Or.inl ⟨by rfl, ?_⟩) ?_ ?_
  rotate_left
  · intro w'
    go_simp
    (try with_reducible rfl)
  rotate_left
  · simp only [Act.put, List.setIfInBounds_toArray, List.set_cons_zero, List.set_cons_succ]
    rfl
  refine take_ (i := 1) (N := some 92) (v := ?_) (a' := ?_) #[true, true, true, false, false, true, false, true, false, false, false, false, false, false, false, false] rfl rfl (by kernel_rfl) (fun _ _ _ h => h) (Or.inl ⟨by rfl, ?_⟩) hHeld ?_ ?_
  rotate_left
  · intro w' s0
    obtain ⟨t1, t2, t3⟩ := s0
    have c0 : w'.cell? ⟨q, 1, none⟩ = some (.int .i64 (mm.holder : Int)) := t2.cell 1
    go_simp
    (try with_reducible rfl)
  rotate_left
  · simp only [Act.put, List.setIfInBounds_toArray, List.set_cons_zero, List.set_cons_succ]
    rfl
  refine pure_ (i := 3) (N := some 94) (v := ?_) (a' := ?_) #[true, true, true, true, false, true, false, true, false, false, false, false, false, false, false, false] rfl rfl (by kernel_rfl) (fun _ _ _ h => h) (Or.inl ⟨by rfl, ?_⟩) ?_ ?_
  rotate_left
  · intro w'
    go_simp
    (try with_reducible rfl)
  rotate_left
  · simp only [Act.put, List.setIfInBounds_toArray, List.set_cons_zero, List.set_cons_succ]
    rfl
  refine take_ (i := 4) (N := some 95) (v := ?_) (a' := ?_) #[true, true, true, true, true, true, false, true, false, false, false, false, false, false, false, false] rfl rfl (by kernel_rfl) (fun _ _ _ h => h) (Or.inl ⟨by rfl, ?_⟩) hHeld ?_ ?_
  rotate_left
  · intro w' s0
    obtain ⟨t1, t2, t3⟩ := s0
    refine exec_load_part _ (.tmp 94) 41 ?_ g (4 + mm.holder * 4) (hC (x.hs mm.holder) (a mm.holder) (b mm.holder)) ?_ agg41 size41 109 _ t1 ?_
    · rfl
    · (first | rfl | (simp [Act.eval]))
    · exact WC_h mm.holder hh4
  rotate_left
  · simp only [Act.put, List.setIfInBounds_toArray, List.set_cons_zero, List.set_cons_succ]
    rfl
  refine take_ (i := 6) (N := some 97) (v := ?_) (a' := ?_) #[true, true, true, true, true, true, true, true, false, false, false, false, false, false, false, false] rfl rfl (by kernel_rfl) (fun _ _ _ h => h) (Or.inl ⟨by rfl, ?_⟩) hHeld ?_ ?_
  rotate_left
  · intro w' s0
    obtain ⟨t1, t2, t3⟩ := s0
    have c0 : w'.cell? ⟨q, 2, none⟩ = some (.int .i64 mm.place) := t2.cell 2
    go_simp
    (try with_reducible rfl)
  rotate_left
  · simp only [Act.put, List.setIfInBounds_toArray, List.set_cons_zero, List.set_cons_succ]
    rfl
  refine take_ (i := 8) (N := some 99) (v := ?_) (a' := ?_) #[true, true, true, true, true, true, true, true, true, false, false, false, false, false, false, false] rfl rfl (by kernel_rfl) (fun _ _ _ h => h) (Or.inl ⟨by rfl, ?_⟩) hHeld ?_ ?_
  rotate_left
  · intro w' s0
    obtain ⟨t1, t2, t3⟩ := s0
    have c0 : w'.cell? ⟨q, 3, none⟩ = some (.int .i64 mm.num) := t2.cell 3
    go_simp
    (try with_reducible rfl)
  rotate_left
  · simp only [Act.put, List.setIfInBounds_toArray, List.set_cons_zero, List.set_cons_succ]
    rfl
  refine wpAnyLast_ready (rs := [9, 13]) (by kernel_rfl) (by simp) ?_
  refine AllReadyL.cons (o := ⟨some 100, Go.Op.call ⟨Go.Callee.value (Go.Operand.func 44), #[Go.Operand.tmp 95, Go.Operand.tmp 97, Go.Operand.tmp 99], #[41, 3, 3]⟩, 44, "outright.go:61", #[⟨4, Go.Ground.data⟩, ⟨6, Go.Ground.data⟩, ⟨8, Go.Ground.data⟩], none⟩) rfl (by decide) (fun K hK => ?_) ?_
  focus
    rw [if_pos (by rfl)]
    go_simp
    (go_at_call 44; (with_reducible refine (HDn.out _ hHeld.2.2).mono ?_); rintro e6 W9 ⟨n1, n2, rfl, ⟨hm1, hm2⟩, hX6, hV6⟩; have HM1 := Lib.hid hm1; have HM2 := Lib.hid hm2; clear hm1 hm2; (try have HZ := Lib.hid (HZ.out.o hV6)))
    refine hK.out _ _ (⟨hHeld.1.o hV6, hHeld.2.1.o hV6, hX6⟩) (fun hHeld => ?_)
    clear hK K
    try simp only [Act.put, List.setIfInBounds_toArray, List.set_cons_zero, List.set_cons_succ]
    refine pure_ (i := 10) (N := some 90) (v := ?_) (a' := ?_) #[true, true, true, true, true, true, true, true, true, true, true, false, false, false, false, false] rfl rfl (by kernel_rfl) (fun _ _ _ h => h) (Or.inl ⟨by rfl, ?_⟩) ?_ ?_
    rotate_left
    · intro w'
      go_simp
      (try with_reducible rfl)
    rotate_left
    · simp only [Act.put, List.setIfInBounds_toArray, List.set_cons_zero, List.set_cons_succ]
      rfl
    refine pure_ (i := 11) (N := some 101) (v := ?_) (a' := ?_) #[true, true, true, true, true, true, true, true, true, true, true, true, false, false, false, false] rfl rfl (by kernel_rfl) (fun _ _ _ h => h) (Or.inl ⟨by rfl, ?_⟩) ?_ ?_
    rotate_left
    · intro w'
      go_simp
      (try with_reducible rfl)
    rotate_left
    · simp only [Act.put, List.setIfInBounds_toArray, List.set_cons_zero, List.set_cons_succ]
      rfl
    refine pure_ (i := 12) (N := some 102) (v := ?_) (a' := ?_) #[true, true, true, true, true, true, true, true, true, true, true, true, true, false, false, false] rfl rfl (by kernel_rfl) (fun _ _ _ h => h) (Or.inl ⟨by rfl, ?_⟩) ?_ ?_
    rotate_left
    · intro w'
      go_simp
      (try with_reducible rfl)
    rotate_left
    · simp only [Act.put, List.setIfInBounds_toArray, List.set_cons_zero, List.set_cons_succ]
      rfl
    refine one_ (i := 13) (N := some 12) (oi := ⟨some 12, Go.Op.alloc 41, 0, "outright.go:61", #[], none⟩) #[true, true, true, true, true, true, true, true, true, true, true, true, true, true, false, false] rfl rfl (by kernel_rfl) (by decide) (fun K hK => ?_)
    refine step_alloc (by rfl) rfl (cs := #[.int .i64 0, .int .i64 0, .map none, .map none]) (t := 41) ?hr ?_
    (case hr => first | (go_simp; done) | (go_simp; rfl))
    intro h hh W7 hbox hO
    have HZ := Lib.hid hbox
    have hne : g ≠ h := (by rw [hh]; exact Nat.ne_of_lt hHeld.1.lt)
    have hneq : q ≠ h := (by rw [hh]; exact Nat.ne_of_lt hHeld.2.1.lt)
    have hge : W3.heap.size ≤ h := (by rw [hh]; exact hHeld.2.2.size)
    (try have HM1 := Lib.hid (mapIs_out HM1.out hO)); (try have HM2 := Lib.hid (mapIs_out HM2.out hO))
    clear hh hbox
    refine hK.out _ _ (⟨hHeld.1.o hO, hHeld.2.1.o hO, hHeld.2.2.thens hO⟩) (fun hHeld => ?_)
    clear hK K
    try simp only [Act.put, List.setIfInBounds_toArray, List.set_cons_zero, List.set_cons_succ]
    refine last_ (i := 14) (N := none) (oi := ⟨none, Go.Op.store 41 (Go.Operand.tmp 12) (Go.Operand.tmp 101), 0, "outright.go:61", #[⟨13, Go.Ground.data⟩, ⟨11, Go.Ground.data⟩, ⟨9, Go.Ground.chain⟩, ⟨0, Go.Ground.phase⟩, ⟨1, Go.Ground.phase⟩, ⟨2, Go.Ground.phase⟩, ⟨3, Go.Ground.phase⟩, ⟨4, Go.Ground.phase⟩, ⟨5, Go.Ground.phase⟩, ⟨6, Go.Ground.phase⟩, ⟨7, Go.Ground.phase⟩, ⟨8, Go.Ground.phase⟩, ⟨9, Go.Ground.phase⟩, ⟨10, Go.Ground.phase⟩, ⟨11, Go.Ground.phase⟩, { on := 12, ground := Go.Ground.textOnly Go.Departure.lateStores }, ⟨13, Go.Ground.phase⟩], none⟩) #[true, true, true, true, true, true, true, true, true, true, true, true, true, true, true, false] rfl rfl (by kernel_rfl) (by decide) (fun K hK => ?_)
    refine step_store_part _ (by rfl) rfl (.tmp 12) (.tmp 101) 41 rfl h 0 ((hC (denyH (x.hs mm.holder) mm.place mm.num).1 n1 n2)) rfl rfl size41 rfl 41 _ HZ.out (Nat.le_refl _) ((hC (denyH (x.hs mm.holder) mm.place mm.num).1 n1 n2)) rfl ?_
    intro w7 hb7 hfr
    have HY7 := Lib.hid hb7
    have HQ7 := Lib.hid (hHeld.2.1.away hfr hneq)
    have HE7 := Lib.hid ((HE.out.o hHeld.2.2).away HZ.out (by decide) (Nat.le_trans HS3.out hge) hne hfr)
    have HR7 := Lib.hid ((HR.out.o hHeld.2.2).away hfr (Nat.ne_of_lt (Nat.lt_of_lt_of_le HR.out.lt hge)))
    have HM1 := Lib.hid (mapIs_far HM1.out HZ.out hfr)
    have HM2 := Lib.hid (mapIs_far HM2.out HZ.out hfr)
    have q1 : w7.cell? ⟨q, 1, none⟩ = some (.int .i64 (mm.holder : Int)) := HQ7.out.cell 1
    clear hb7 hfr hHeld
    refine hK.out _ _ ?_
    clear hK K
    try simp only [Act.put, List.setIfInBounds_toArray, List.set_cons_zero, List.set_cons_succ]
    refine pure_ (i := 15) (N := some 13) (v := ?_) (a' := ?_) #[true, true, true, true, true, true, true, true, true, true, true, true, true, true, true, true] rfl rfl (by kernel_rfl) (fun _ _ _ h => h) (Or.inl ⟨by rfl, ?_⟩) ?_ ?_
    rotate_left
    · intro w'
      go_simp
      (try with_reducible rfl)
    rotate_left
    · simp only [Act.put, List.setIfInBounds_toArray, List.set_cons_zero, List.set_cons_succ]
      rfl
    refine done_ (by kernel_rfl) ?_
  rotate_left 1
  refine AllReadyL.cons (o := ⟨some 12, Go.Op.alloc 41, 0, "outright.go:61", #[], none⟩) rfl (by decide) (fun K hK => ?_) ?_
  focus
    refine step_alloc (by rfl) rfl (cs := #[.int .i64 0, .int .i64 0, .map none, .map none]) (t := 41) ?hr ?_
    (case hr => first | (go_simp; done) | (go_simp; rfl))
    intro h hh W7 hbox hO
    have HZ := Lib.hid hbox
    have hne : g ≠ h := (by rw [hh]; exact Nat.ne_of_lt hHeld.1.lt)
    have hneq : q ≠ h := (by rw [hh]; exact Nat.ne_of_lt hHeld.2.1.lt)
    have hge : W3.heap.size ≤ h := (by rw [hh]; exact hHeld.2.2.size)
    (try have HM1 := Lib.hid (mapIs_out HM1.out hO)); (try have HM2 := Lib.hid (mapIs_out HM2.out hO))
    clear hh hbox
    refine hK.out _ _ (⟨hHeld.1.o hO, hHeld.2.1.o hO, hHeld.2.2.thens hO⟩) (fun hHeld => ?_)
    clear hK K
    try simp only [Act.put, List.setIfInBounds_toArray, List.set_cons_zero, List.set_cons_succ]
    refine one_ (i := 9) (N := some 100) (oi := ⟨some 100, Go.Op.call ⟨Go.Callee.value (Go.Operand.func 44), #[Go.Operand.tmp 95, Go.Operand.tmp 97, Go.Operand.tmp 99], #[41, 3, 3]⟩, 44, "outright.go:61", #[⟨4, Go.Ground.data⟩, ⟨6, Go.Ground.data⟩, ⟨8, Go.Ground.data⟩], none⟩) #[true, true, true, true, true, true, true, true, true, true, false, false, false, true, false, false] rfl rfl (by kernel_rfl) (by decide) (fun K hK => ?_)
    rw [if_pos (by rfl)]
    go_simp
    (go_at_call 44; (with_reducible refine (HDn.out _ hHeld.2.2).mono ?_); rintro e6 W9 ⟨n1, n2, rfl, ⟨hm1, hm2⟩, hX6, hV6⟩; have HM1 := Lib.hid hm1; have HM2 := Lib.hid hm2; clear hm1 hm2; (try have HZ := Lib.hid (HZ.out.o hV6)))
    refine hK.out _ _ (⟨hHeld.1.o hV6, hHeld.2.1.o hV6, hX6⟩) (fun hHeld => ?_)
    clear hK K
    try simp only [Act.put, List.setIfInBounds_toArray, List.set_cons_zero, List.set_cons_succ]
    refine pure_ (i := 10) (N := some 90) (v := ?_) (a' := ?_) #[true, true, true, true, true, true, true, true, true, true, true, false, false, true, false, false] rfl rfl (by kernel_rfl) (fun _ _ _ h => h) (Or.inl ⟨by rfl, ?_⟩) ?_ ?_
    rotate_left
    · intro w'
      go_simp
      (try with_reducible rfl)
    rotate_left
    · simp only [Act.put, List.setIfInBounds_toArray, List.set_cons_zero, List.set_cons_succ]
      rfl
    refine pure_ (i := 11) (N := some 101) (v := ?_) (a' := ?_) #[true, true, true, true, true, true, true, true, true, true, true, true, false, true, false, false] rfl rfl (by kernel_rfl) (fun _ _ _ h => h) (Or.inl ⟨by rfl, ?_⟩) ?_ ?_
    rotate_left
    · intro w'
      go_simp
      (try with_reducible rfl)
    rotate_left
    · simp only [Act.put, List.setIfInBounds_toArray, List.set_cons_zero, List.set_cons_succ]
      rfl
    refine pure_ (i := 12) (N := some 102) (v := ?_) (a' := ?_) #[true, true, true, true, true, true, true, true, true, true, true, true, true, true, false, false] rfl rfl (by kernel_rfl) (fun _ _ _ h => h) (Or.inl ⟨by rfl, ?_⟩) ?_ ?_
    rotate_left
    · intro w'
      go_simp
      (try with_reducible rfl)
    rotate_left
    · simp only [Act.put, List.setIfInBounds_toArray, List.set_cons_zero, List.set_cons_succ]
      rfl
    refine last_ (i := 14) (N := none) (oi := ⟨none, Go.Op.store 41 (Go.Operand.tmp 12) (Go.Operand.tmp 101), 0, "outright.go:61", #[⟨13, Go.Ground.data⟩, ⟨11, Go.Ground.data⟩, ⟨9, Go.Ground.chain⟩, ⟨0, Go.Ground.phase⟩, ⟨1, Go.Ground.phase⟩, ⟨2, Go.Ground.phase⟩, ⟨3, Go.Ground.phase⟩, ⟨4, Go.Ground.phase⟩, ⟨5, Go.Ground.phase⟩, ⟨6, Go.Ground.phase⟩, ⟨7, Go.Ground.phase⟩, ⟨8, Go.Ground.phase⟩, ⟨9, Go.Ground.phase⟩, ⟨10, Go.Ground.phase⟩, ⟨11, Go.Ground.phase⟩, { on := 12, ground := Go.Ground.textOnly Go.Departure.lateStores }, ⟨13, Go.Ground.phase⟩], none⟩) #[true, true, true, true, true, true, true, true, true, true, true, true, true, true, true, false] rfl rfl (by kernel_rfl) (by decide) (fun K hK => ?_)
    refine step_store_part _ (by rfl) rfl (.tmp 12) (.tmp 101) 41 rfl h 0 ((hC (denyH (x.hs mm.holder) mm.place mm.num).1 n1 n2)) rfl rfl size41 rfl 41 _ HZ.out (Nat.le_refl _) ((hC (denyH (x.hs mm.holder) mm.place mm.num).1 n1 n2)) rfl ?_
    intro w7 hb7 hfr
    have HY7 := Lib.hid hb7
    have HQ7 := Lib.hid (hHeld.2.1.away hfr hneq)
    have HE7 := Lib.hid ((HE.out.o hHeld.2.2).away HZ.out (by decide) (Nat.le_trans HS3.out hge) hne hfr)
    have HR7 := Lib.hid ((HR.out.o hHeld.2.2).away hfr (Nat.ne_of_lt (Nat.lt_of_lt_of_le HR.out.lt hge)))
    have HM1 := Lib.hid (mapIs_far HM1.out HZ.out hfr)
    have HM2 := Lib.hid (mapIs_far HM2.out HZ.out hfr)
    have q1 : w7.cell? ⟨q, 1, none⟩ = some (.int .i64 (mm.holder : Int)) := HQ7.out.cell 1
    clear hb7 hfr hHeld
    refine hK.out _ _ ?_
    clear hK K
    try simp only [Act.put, List.setIfInBounds_toArray, List.set_cons_zero, List.set_cons_succ]
    refine pure_ (i := 15) (N := some 13) (v := ?_) (a' := ?_) #[true, true, true, true, true, true, true, true, true, true, true, true, true, true, true, true] rfl rfl (by kernel_rfl) (fun _ _ _ h => h) (Or.inl ⟨by rfl, ?_⟩) ?_ ?_
    rotate_left
    · intro w'
      go_simp
      (try with_reducible rfl)
    rotate_left
    · simp only [Act.put, List.setIfInBounds_toArray, List.set_cons_zero, List.set_cons_succ]
      rfl
    refine done_ (by kernel_rfl) ?_
  rotate_left 1
  exact AllReadyL.nil
  all_goals
    have hfit : 4 + mm.holder * 4 + (hC (denyH (x.hs mm.holder) mm.place mm.num).1 n1 n2).size ≤ (WC x p m a b v term margin).size := (by show 4 + mm.holder * 4 + 4 ≤ 24; omega)
    go_wp2_with (first
        | ((with_reducible refine gate_dst (N := 105) rfl ?_); refine wpList_load_part _ rfl (.tmp 12) 41 rfl h 0 (hC (denyH (x.hs mm.holder) mm.place mm.num).1 n1 n2) rfl agg41 size41 41 _ HY7.out (fun j u hj => (by rw [Nat.zero_add]; simpa using hj)) ?_)
        | (refine wpList_store_part _ rfl (.tmp 107) (.tmp 105) 41 rfl g (4 + mm.holder * 4) (hC (denyH (x.hs mm.holder) mm.place mm.num).1 n1 n2) (by simp [Act.eval]) rfl size41 rfl 109 _ HE7.out.blk hfit (WC { x with hs := setH x.hs mm.holder (denyH (x.hs mm.holder) mm.place mm.num).1 } p m (updN a mm.holder n1) (updN b mm.holder n2) v term margin) (WC_setH mm.holder hh4 (denyH (x.hs mm.holder) mm.place mm.num).1 n1 n2) ?_; intro w8 hb8 hfr8; have HR8 := Lib.hid (HR7.out.away hfr8 hgr.symm); have HE8 := Lib.hid (HE7.out.withH mm.holder HM1.out HM2.out hb8 hfr8); clear hb8 hfr8)
        | ((with_reducible refine gate_dst (N := 127) rfl ?_); refine wpList_load_part _ rfl (.tmp 2) 109 rfl g 0 (WC { x with hs := setH x.hs mm.holder (denyH (x.hs mm.holder) mm.place mm.num).1 } p m (updN a mm.holder n1) (updN b mm.holder n2) v term margin) rfl agg109 size109 109 _ HE8.out.blk (fun j u hj => (by rw [Nat.zero_add]; simpa using hj)) ?_)
        | (refine wpList_store_part _ rfl (.tmp 4) (.tmp 127) 109 rfl r 0 (WC { x with hs := setH x.hs mm.holder (denyH (x.hs mm.holder) mm.place mm.num).1 } p m (updN a mm.holder n1) (updN b mm.holder n2) v term margin) rfl rfl size109 HE8.out.wd.one 109 _ HR8.out (Nat.le_refl _) (WC { x with hs := setH x.hs mm.holder (denyH (x.hs mm.holder) mm.place mm.num).1 } p m (updN a mm.holder n1) (updN b mm.holder n2) v term margin) rfl ?_; intro w9 hb9 hfr9; have HR9 := Lib.hid hb9; have HE9 := Lib.hid (HE8.out.away HR8.out (by decide) hrw hgr hfr9); clear hb9 hfr9)
        | fail)
    exact bodyPost_ret (results_blk1 Try.results65 _ _ r (WC { x with hs := setH x.hs mm.holder (denyH (x.hs mm.holder) mm.place mm.num).1 } p m (updN a mm.holder n1) (updN b mm.holder n2) v term margin) rfl agg109 size109 HR9.out) rfl ⟨_, _, _, _, rfl, HE9.out.wd, HE9.out.out⟩
set_option maxRecDepth 100000 in
set_option maxHeartbeats 8000000 in
theorem come4 (w : World) (lo p : Nat) (x : MW) (mm : Word) (m : Option Nat) (a b : Nat → Option Nat) (v : Value) (term margin : Int) (hk : Wd2 w lo p x m a b v) (hh : 1 ≤ mm.holder ∧ mm.holder ≤ 3) (hp : (Lit.int .i64 mm.place).wf = true) (hkd : mm.kind = 4) :
    Calls Try.prog 65 #[.agg (WC x p m a b v term margin), .agg (wC mm)] w (Hands w lo p { x with s := (letL x.s (x.c.N 0) mm.place (mm.holder : Int) mm.epoch).1 } term margin) := by
  obtain ⟨hh1, hh3⟩ := hh
  have HKW := Lib.hid hk
  have HKP := Lib.hid hp
  have HLow := Lib.hid hk.full
  have hh4 : mm.holder < 4 := by omega
  have hhI : (mm.holder : Int) < 4 := by omega
  have hh0 : ¬ (mm.holder : Int) < 0 := by omega
  have hu41 := Try.underlying41
  have hu57 := Try.underlying57
  have hu106 := Try.underlying106
  have hu107 := Try.underlying107
  have hu141 := Try.underlying141
  have HB0 := Lib.hid (Only.refl w.heap.size w.heap.size w)
  clear hk hp
  go_enter Try.func65, Try.ntmps65
  go_wp2_with (first
    | ((with_reducible refine gate_dst (N := 2) rfl ?_); refine box_event rfl (N := 2) rfl (cs := (WC x p m a b v term margin)) (t := 109) ?hr ?_; (case hr => first | (go_simp; done) | (go_simp; rfl)); intro g hg W1 hbox hb; have HE1 : Hid (Ed w W1 g lo p x m a b v term margin) := Lib.hid ⟨hbox, HKW.out.kept (Out.of hb), Out.of hb, (by rw [hg]; exact Nat.le_refl _), HLow.out⟩; clear hg hbox hb)
    | ((with_reducible refine gate_dst (N := 3) rfl ?_); refine box_event rfl (N := 3) rfl (cs := wC mm) (t := 141) ?hr ?_; (case hr => first | (go_simp; done) | (go_simp; rfl)); intro q hq W2 hbox hb; have HQ2 := Lib.hid (show Blk W2 q 141 (wC mm) from hbox); have HE2 := Lib.hid (HE1.out.o (Out.of hb)); have hgq : g ≠ q := (by rw [hq]; exact Nat.ne_of_lt HE1.out.blk.lt); clear hq hbox hb)
    | ((with_reducible refine gate_dst (N := 4) rfl ?_); refine box_event rfl (N := 4) rfl (cs := Z24) (t := 109) ?hr ?_; (case hr => first | (go_simp; done) | (go_simp; rfl)); intro r hr W3 hbox hb; have HR := Lib.hid (show Blk W3 r 109 Z24 from hbox); have HE := Lib.hid (HE2.out.o (Out.of hb)); have HQ := Lib.hid (HQ2.out.o (Out.of hb)); have hgr : g ≠ r := (by rw [hr]; exact Nat.ne_of_lt HE2.out.blk.lt); have hrw : w.heap.size ≤ r := (by rw [hr]; exact HE2.out.out.size); have HNow : Hid (∀ V, Out W3 V → Calls Try.prog 21 #[.pointer (some ⟨p, 0, none⟩), .int .i64 (mm.holder : Int)] V fun e w' => e = .returned (.int .i64 (x.c.N mm.holder)) ∧ V = w') := Lib.hid (fun V hX => now_some V lo (lo + 4) p 4 x.c (HE.out.wd.kept hX).clk mm.holder (by decide) hh4); have c0 : W3.cell? ⟨g, 0, none⟩ = some (.pointer (some ⟨p, 0, none⟩)) := HE.out.blk.cell 0; have q1 : W3.cell? ⟨q, 1, none⟩ = some (.int .i64 (mm.holder : Int)) := HQ.out.cell 1; have q0 : W3.cell? ⟨q, 0, none⟩ = some (.int .i64 4) := (by rw [← hkd]; exact HQ.out.cell 0); clear hr hbox hb HE1 HE2 HQ2)
    | (go_at_call 21; (with_reducible refine (HNow.out _ (Only.refl _ _ _)).mono ?_); rintro e5 W5 ⟨rfl, rfl⟩)
    | fail)
  have HS3 := Lib.hid HE.out.out.size
  have HNow0 : Hid (∀ V, Out W3 V → Calls Try.prog 21 #[.pointer (some ⟨p, 0, none⟩), .int .i64 0] V fun e w' => e = .returned (.int .i64 (x.c.N 0)) ∧ V = w') := Lib.hid (fun V hX => now_some V lo (lo + 4) p 4 x.c (HE.out.wd.kept hX).clk 0 (by decide) (by omega))
  have HLet : Hid (∀ V, Out W3 V → Calls Try.prog 36 #[.agg (sC x.s m), .int .i64 (x.c.N 0), .int .i64 mm.place, .int .i64 (mm.holder : Int), .int .i64 mm.epoch] V fun e w' => ∃ m1, e = .returned (.tuple #[.agg (sC (letL x.s (x.c.N 0) mm.place (mm.holder : Int) mm.epoch).1 m1), .int .i64 (letL x.s (x.c.N 0) mm.place (mm.holder : Int) mm.epoch).2]) ∧ MapIs tripE w' m1 (letL x.s (x.c.N 0) mm.place (mm.holder : Int) mm.epoch).1.hs ∧ Out W3 w' ∧ Out V w') := Lib.hid (fun V hX => letL_from hX (S := x.s) HE.out.wd.s rfl rfl rfl rfl HKP.out rfl)
  go_wp2_with fail
  refine start_ (n := 18) (S := fun W' => Blk W' g 109 (WC x p m a b v term margin) ∧ Blk W' q 141 (wC mm) ∧ Out W3 W') (ds := [16]) #[false, false, false, false, false, false, false, false, false, false, false, false, false, false, false, false, false, false] (by kernel_rfl) rfl rfl (⟨HE.out.blk.drew, HQ.out.drew, (Only.refl _ _ _).drew⟩) (fun hHeld => ?_)
  refine pure_ (i := 0) (N := some 111) (v := ?_) (a' := ?_) #[true, false, false, false, false, false, false, false, false, false, false, false, false, false, false, false, false, false] rfl rfl (by kernel_rfl) (fun _ _ _ h => h) (Or.inl ⟨by rfl, ?_⟩) ?_ ?_
  rotate_left
  · intro w'
    go_simp
    (try with_reducible rfl)
  rotate_left
  · simp only [Act.put, List.setIfInBounds_toArray, List.set_cons_zero, List.set_cons_succ]
    rfl
  refine pure_ (i := 2) (N := some 113) (v := ?_) (a' := ?_) #[true, false, true, false, false, false, false, false, false, false, false, false, false, false, false, false, false, false] rfl rfl (by kernel_rfl) (fun _ _ _ h => h) (Or.inl ⟨by rfl, ?_⟩) ?_ ?_
  rotate_left
  · intro w'
    go_simp
    (try with_reducible rfl)
  rotate_left
  · simp only [Act.put, List.setIfInBounds_toArray, List.set_cons_zero, List.set_cons_succ]
    rfl
  refine pure_ (i := 5) (N := some 116) (v := ?_) (a' := ?_) #[true, false, true, false, false, true, false, false, false, false, false, false, false, false, false, false, false, false] rfl rfl (by kernel_rfl) (fun _ _ _ h => h) (Or.inl ⟨by rfl, ?_⟩) ?_ ?_
  rotate_left
  · intro w'
    go_simp
    (try with_reducible rfl)
  rotate_left
  · simp only [Act.put, List.setIfInBounds_toArray, List.set_cons_zero, List.set_cons_succ]
    rfl
  refine pure_ (i := 7) (N := some 118) (v := ?_) (a' := ?_) #[true, false, true, false, false, true, false, true, false, false, false, false, false, false, false, false, false, false] rfl rfl (by kernel_rfl) (fun _ _ _ h => h) (Or.inl ⟨by rfl, ?_⟩) ?_ ?_
  rotate_left
  · intro w'
    go_simp
    (try with_reducible rfl)
  rotate_left
  · simp only [Act.put, List.setIfInBounds_toArray, List.set_cons_zero, List.set_cons_succ]
    rfl
  refine pure_ (i := 9) (N := some 120) (v := ?_) (a' := ?_) #[true, false, true, false, false, true, false, true, false, true, false, false, false, false, false, false, false, false] rfl rfl (by kernel_rfl) (fun _ _ _ h => h) (Or.inl ⟨by rfl, ?_⟩) ?_ ?_
  rotate_left
  · intro w'
    go_simp
    (try with_reducible rfl)
  rotate_left
  · simp only [Act.put, List.setIfInBounds_toArray, List.set_cons_zero, List.set_cons_succ]
    rfl
  refine take_ (i := 1) (N := some 112) (v := ?_) (a' := ?_) #[true, true, true, false, false, true, false, true, false, true, false, false, false, false, false, false, false, false] rfl rfl (by kernel_rfl) (fun _ _ _ h => h) (Or.inl ⟨by rfl, ?_⟩) hHeld ?_ ?_
  rotate_left
  · intro w' s0
    obtain ⟨t1, t2, t3⟩ := s0
    refine exec_load_part _ (.tmp 111) 57 ?_ g 1 (sC x.s m) ?_ agg57 size57 109 _ t1 ?_
    · rfl
    · (first | rfl | (simp [Act.eval]))
    · exact WC_s
  rotate_left
  · simp only [Act.put, List.setIfInBounds_toArray, List.set_cons_zero, List.set_cons_succ]
    rfl
  refine take_ (i := 3) (N := some 114) (v := ?_) (a' := ?_) #[true, true, true, true, false, true, false, true, false, true, false, false, false, false, false, false, false, false] rfl rfl (by kernel_rfl) (fun _ _ _ h => h) (Or.inl ⟨by rfl, ?_⟩) hHeld ?_ ?_
  rotate_left
  · intro w' s0
    obtain ⟨t1, t2, t3⟩ := s0
    have c0 : w'.cell? ⟨g, 0, none⟩ = some (.pointer (some ⟨p, 0, none⟩)) := t1.cell 0
    go_simp
    (try with_reducible rfl)
  rotate_left
  · simp only [Act.put, List.setIfInBounds_toArray, List.set_cons_zero, List.set_cons_succ]
    rfl
  refine take_ (i := 6) (N := some 117) (v := ?_) (a' := ?_) #[true, true, true, true, false, true, true, true, false, true, false, false, false, false, false, false, false, false] rfl rfl (by kernel_rfl) (fun _ _ _ h => h) (Or.inl ⟨by rfl, ?_⟩) hHeld ?_ ?_
  rotate_left
  · intro w' s0
    obtain ⟨t1, t2, t3⟩ := s0
    have c0 : w'.cell? ⟨q, 2, none⟩ = some (.int .i64 mm.place) := t2.cell 2
    go_simp
    (try with_reducible rfl)
  rotate_left
  · simp only [Act.put, List.setIfInBounds_toArray, List.set_cons_zero, List.set_cons_succ]
    rfl
  refine take_ (i := 8) (N := some 119) (v := ?_) (a' := ?_) #[true, true, true, true, false, true, true, true, true, true, false, false, false, false, false, false, false, false] rfl rfl (by kernel_rfl) (fun _ _ _ h => h) (Or.inl ⟨by rfl, ?_⟩) hHeld ?_ ?_
  rotate_left
  · intro w' s0
    obtain ⟨t1, t2, t3⟩ := s0
    have c0 : w'.cell? ⟨q, 1, none⟩ = some (.int .i64 (mm.holder : Int)) := t2.cell 1
    go_simp
    (try with_reducible rfl)
  rotate_left
  · simp only [Act.put, List.setIfInBounds_toArray, List.set_cons_zero, List.set_cons_succ]
    rfl
  refine take_ (i := 10) (N := some 121) (v := ?_) (a' := ?_) #[true, true, true, true, false, true, true, true, true, true, true, false, false, false, false, false, false, false] rfl rfl (by kernel_rfl) (fun _ _ _ h => h) (Or.inl ⟨by rfl, ?_⟩) hHeld ?_ ?_
  rotate_left
  · intro w' s0
    obtain ⟨t1, t2, t3⟩ := s0
    have c0 : w'.cell? ⟨q, 4, none⟩ = some (.int .i64 mm.epoch) := t2.cell 4
    go_simp
    (try with_reducible rfl)
  rotate_left
  · simp only [Act.put, List.setIfInBounds_toArray, List.set_cons_zero, List.set_cons_succ]
    rfl
  refine wpAnyLast_ready (rs := [4, 15]) (by kernel_rfl) (by simp) ?_
  refine AllReadyL.cons (o := ⟨some 115, Go.Op.call ⟨Go.Callee.value (Go.Operand.func 21), #[Go.Operand.tmp 114, Go.Operand.const (Go.Value.int Go.IntKind.i64 0)], #[24, 3]⟩, 3, "outright.go:64", #[⟨3, Go.Ground.data⟩], none⟩) rfl (by decide) (fun K hK => ?_) ?_
  focus
    rw [if_pos (by rfl)]
    go_simp
    (go_at_call 21; (with_reducible refine (HNow0.out _ hHeld.2.2).mono ?_); rintro e5 W5 ⟨rfl, rfl⟩)
    refine hK.out _ _ (hHeld) (fun hHeld => ?_)
    clear hK K
    try simp only [Act.put, List.setIfInBounds_toArray, List.set_cons_zero, List.set_cons_succ]
    refine wpAnyLast_ready (rs := [11, 15]) (by kernel_rfl) (by simp) ?_
    refine AllReadyL.cons (o := ⟨some 122, Go.Op.call ⟨Go.Callee.value (Go.Operand.func 36), #[Go.Operand.tmp 112, Go.Operand.tmp 115, Go.Operand.tmp 117, Go.Operand.tmp 119, Go.Operand.tmp 121], #[57, 3, 3, 3, 3]⟩, 67, "outright.go:64", #[⟨1, Go.Ground.data⟩, ⟨4, Go.Ground.data⟩, ⟨6, Go.Ground.data⟩, ⟨8, Go.Ground.data⟩, ⟨10, Go.Ground.data⟩, ⟨4, Go.Ground.chain⟩], none⟩) rfl (by decide) (fun K hK => ?_) ?_
    focus
      rw [if_pos (by rfl)]
      go_simp
      (go_at_call 36; (with_reducible refine (HLet.out _ hHeld.2.2).mono ?_); rintro e6 W9 ⟨m1, rfl, hm1, hX6, hV6⟩; have HM1 := Lib.hid hm1; clear hm1; (try have HZ := Lib.hid (HZ.out.o hV6)))
      refine hK.out _ _ (⟨hHeld.1.o hV6, hHeld.2.1.o hV6, hX6⟩) (fun hHeld => ?_)
      clear hK K
      try simp only [Act.put, List.setIfInBounds_toArray, List.set_cons_zero, List.set_cons_succ]
      refine pure_ (i := 12) (N := some 110) (v := ?_) (a' := ?_) #[true, true, true, true, true, true, true, true, true, true, true, true, true, false, false, false, false, false] rfl rfl (by kernel_rfl) (fun _ _ _ h => h) (Or.inl ⟨by rfl, ?_⟩) ?_ ?_
      rotate_left
      · intro w'
        go_simp
        (try with_reducible rfl)
      rotate_left
      · simp only [Act.put, List.setIfInBounds_toArray, List.set_cons_zero, List.set_cons_succ]
        rfl
      refine pure_ (i := 13) (N := some 123) (v := ?_) (a' := ?_) #[true, true, true, true, true, true, true, true, true, true, true, true, true, true, false, false, false, false] rfl rfl (by kernel_rfl) (fun _ _ _ h => h) (Or.inl ⟨by rfl, ?_⟩) ?_ ?_
      rotate_left
      · intro w'
        go_simp
        (try with_reducible rfl)
      rotate_left
      · simp only [Act.put, List.setIfInBounds_toArray, List.set_cons_zero, List.set_cons_succ]
        rfl
      refine pure_ (i := 14) (N := some 124) (v := ?_) (a' := ?_) #[true, true, true, true, true, true, true, true, true, true, true, true, true, true, true, false, false, false] rfl rfl (by kernel_rfl) (fun _ _ _ h => h) (Or.inl ⟨by rfl, ?_⟩) ?_ ?_
      rotate_left
      · intro w'
        go_simp
        (try with_reducible rfl)
      rotate_left
      · simp only [Act.put, List.setIfInBounds_toArray, List.set_cons_zero, List.set_cons_succ]
        rfl
      refine one_ (i := 15) (N := some 14) (oi := ⟨some 14, Go.Op.alloc 57, 0, "outright.go:64", #[], none⟩) #[true, true, true, true, true, true, true, true, true, true, true, true, true, true, true, true, false, false] rfl rfl (by kernel_rfl) (by decide) (fun K hK => ?_)
      refine step_alloc (by rfl) rfl (cs := #[.int .i64 0, .int .i64 0, .map none]) (t := 57) ?hr ?_
      (case hr => first | (go_simp; done) | (go_simp; rfl))
      intro h hh W7 hbox hO
      have HZ := Lib.hid hbox
      have hne : g ≠ h := (by rw [hh]; exact Nat.ne_of_lt hHeld.1.lt)
      have hneq : q ≠ h := (by rw [hh]; exact Nat.ne_of_lt hHeld.2.1.lt)
      have hge : W3.heap.size ≤ h := (by rw [hh]; exact hHeld.2.2.size)
      (try have HM1 := Lib.hid (mapIs_out HM1.out hO))
      clear hh hbox
      refine hK.out _ _ (⟨hHeld.1.o hO, hHeld.2.1.o hO, hHeld.2.2.thens hO⟩) (fun hHeld => ?_)
      clear hK K
      try simp only [Act.put, List.setIfInBounds_toArray, List.set_cons_zero, List.set_cons_succ]
      refine last_ (i := 16) (N := none) (oi := ⟨none, Go.Op.store 57 (Go.Operand.tmp 14) (Go.Operand.tmp 123), 0, "outright.go:64", #[⟨15, Go.Ground.data⟩, ⟨13, Go.Ground.data⟩, ⟨11, Go.Ground.chain⟩, ⟨0, Go.Ground.phase⟩, ⟨1, Go.Ground.phase⟩, ⟨2, Go.Ground.phase⟩, ⟨3, Go.Ground.phase⟩, ⟨4, Go.Ground.phase⟩, ⟨5, Go.Ground.phase⟩, ⟨6, Go.Ground.phase⟩, ⟨7, Go.Ground.phase⟩, ⟨8, Go.Ground.phase⟩, ⟨9, Go.Ground.phase⟩, ⟨10, Go.Ground.phase⟩, ⟨11, Go.Ground.phase⟩, ⟨12, Go.Ground.phase⟩, ⟨13, Go.Ground.phase⟩, { on := 14, ground := Go.Ground.textOnly Go.Departure.lateStores }, ⟨15, Go.Ground.phase⟩], none⟩) #[true, true, true, true, true, true, true, true, true, true, true, true, true, true, true, true, true, false] rfl rfl (by kernel_rfl) (by decide) (fun K hK => ?_)
      refine step_store_part _ (by rfl) rfl (.tmp 14) (.tmp 123) 57 rfl h 0 ((sC (letL x.s (x.c.N 0) mm.place (mm.holder : Int) mm.epoch).1 m1)) rfl rfl size57 rfl 57 _ HZ.out (Nat.le_refl _) ((sC (letL x.s (x.c.N 0) mm.place (mm.holder : Int) mm.epoch).1 m1)) rfl ?_
      intro w7 hb7 hfr
      have HY7 := Lib.hid hb7
      have HQ7 := Lib.hid (hHeld.2.1.away hfr hneq)
      have HE7 := Lib.hid ((HE.out.o hHeld.2.2).away HZ.out (by decide) (Nat.le_trans HS3.out hge) hne hfr)
      have HR7 := Lib.hid ((HR.out.o hHeld.2.2).away hfr (Nat.ne_of_lt (Nat.lt_of_lt_of_le HR.out.lt hge)))
      have HM1 := Lib.hid (mapIs_far HM1.out HZ.out hfr)
      have q1 : w7.cell? ⟨q, 1, none⟩ = some (.int .i64 (mm.holder : Int)) := HQ7.out.cell 1
      clear hb7 hfr hHeld
      refine hK.out _ _ ?_
      clear hK K
      try simp only [Act.put, List.setIfInBounds_toArray, List.set_cons_zero, List.set_cons_succ]
      refine pure_ (i := 17) (N := some 15) (v := ?_) (a' := ?_) #[true, true, true, true, true, true, true, true, true, true, true, true, true, true, true, true, true, true] rfl rfl (by kernel_rfl) (fun _ _ _ h => h) (Or.inl ⟨by rfl, ?_⟩) ?_ ?_
      rotate_left
      · intro w'
        go_simp
        (try with_reducible rfl)
      rotate_left
      · simp only [Act.put, List.setIfInBounds_toArray, List.set_cons_zero, List.set_cons_succ]
        rfl
      refine done_ (by kernel_rfl) ?_
    rotate_left 1
    refine AllReadyL.cons (o := ⟨some 14, Go.Op.alloc 57, 0, "outright.go:64", #[], none⟩) rfl (by decide) (fun K hK => ?_) ?_
    focus
      refine step_alloc (by rfl) rfl (cs := #[.int .i64 0, .int .i64 0, .map none]) (t := 57) ?hr ?_
      (case hr => first | (go_simp; done) | (go_simp; rfl))
      intro h hh W7 hbox hO
      have HZ := Lib.hid hbox
      have hne : g ≠ h := (by rw [hh]; exact Nat.ne_of_lt hHeld.1.lt)
      have hneq : q ≠ h := (by rw [hh]; exact Nat.ne_of_lt hHeld.2.1.lt)
      have hge : W3.heap.size ≤ h := (by rw [hh]; exact hHeld.2.2.size)
      (try have HM1 := Lib.hid (mapIs_out HM1.out hO))
      clear hh hbox
      refine hK.out _ _ (⟨hHeld.1.o hO, hHeld.2.1.o hO, hHeld.2.2.thens hO⟩) (fun hHeld => ?_)
      clear hK K
      try simp only [Act.put, List.setIfInBounds_toArray, List.set_cons_zero, List.set_cons_succ]
      refine one_ (i := 11) (N := some 122) (oi := ⟨some 122, Go.Op.call ⟨Go.Callee.value (Go.Operand.func 36), #[Go.Operand.tmp 112, Go.Operand.tmp 115, Go.Operand.tmp 117, Go.Operand.tmp 119, Go.Operand.tmp 121], #[57, 3, 3, 3, 3]⟩, 67, "outright.go:64", #[⟨1, Go.Ground.data⟩, ⟨4, Go.Ground.data⟩, ⟨6, Go.Ground.data⟩, ⟨8, Go.Ground.data⟩, ⟨10, Go.Ground.data⟩, ⟨4, Go.Ground.chain⟩], none⟩) #[true, true, true, true, true, true, true, true, true, true, true, true, false, false, false, true, false, false] rfl rfl (by kernel_rfl) (by decide) (fun K hK => ?_)
      rw [if_pos (by rfl)]
      go_simp
      (go_at_call 36; (with_reducible refine (HLet.out _ hHeld.2.2).mono ?_); rintro e6 W9 ⟨m1, rfl, hm1, hX6, hV6⟩; have HM1 := Lib.hid hm1; clear hm1; (try have HZ := Lib.hid (HZ.out.o hV6)))
      refine hK.out _ _ (⟨hHeld.1.o hV6, hHeld.2.1.o hV6, hX6⟩) (fun hHeld => ?_)
      clear hK K
      try simp only [Act.put, List.setIfInBounds_toArray, List.set_cons_zero, List.set_cons_succ]
      refine pure_ (i := 12) (N := some 110) (v := ?_) (a' := ?_) #[true, true, true, true, true, true, true, true, true, true, true, true, true, false, false, true, false, false] rfl rfl (by kernel_rfl) (fun _ _ _ h => h) (Or.inl ⟨by rfl, ?_⟩) ?_ ?_
      rotate_left
      · intro w'
        go_simp
        (try with_reducible rfl)
      rotate_left
      · simp only [Act.put, List.setIfInBounds_toArray, List.set_cons_zero, List.set_cons_succ]
        rfl
      refine pure_ (i := 13) (N := some 123) (v := ?_) (a' := ?_) #[true, true, true, true, true, true, true, true, true, true, true, true, true, true, false, true, false, false] rfl rfl (by kernel_rfl) (fun _ _ _ h => h) (Or.inl ⟨by rfl, ?_⟩) ?_ ?_
      rotate_left
      · intro w'
        go_simp
        (try with_reducible rfl)
      rotate_left
      · simp only [Act.put, List.setIfInBounds_toArray, List.set_cons_zero, List.set_cons_succ]
        rfl
      refine pure_ (i := 14) (N := some 124) (v := ?_) (a' := ?_) #[true, true, true, true, true, true, true, true, true, true, true, true, true, true, true, true, false, false] rfl rfl (by kernel_rfl) (fun _ _ _ h => h) (Or.inl ⟨by rfl, ?_⟩) ?_ ?_
      rotate_left
      · intro w'
        go_simp
        (try with_reducible rfl)
      rotate_left
      · simp only [Act.put, List.setIfInBounds_toArray, List.set_cons_zero, List.set_cons_succ]
        rfl
      refine last_ (i := 16) (N := none) (oi := ⟨none, Go.Op.store 57 (Go.Operand.tmp 14) (Go.Operand.tmp 123), 0, "outright.go:64", #[⟨15, Go.Ground.data⟩, ⟨13, Go.Ground.data⟩, ⟨11, Go.Ground.chain⟩, ⟨0, Go.Ground.phase⟩, ⟨1, Go.Ground.phase⟩, ⟨2, Go.Ground.phase⟩, ⟨3, Go.Ground.phase⟩, ⟨4, Go.Ground.phase⟩, ⟨5, Go.Ground.phase⟩, ⟨6, Go.Ground.phase⟩, ⟨7, Go.Ground.phase⟩, ⟨8, Go.Ground.phase⟩, ⟨9, Go.Ground.phase⟩, ⟨10, Go.Ground.phase⟩, ⟨11, Go.Ground.phase⟩, ⟨12, Go.Ground.phase⟩, ⟨13, Go.Ground.phase⟩, { on := 14, ground := Go.Ground.textOnly Go.Departure.lateStores }, ⟨15, Go.Ground.phase⟩], none⟩) #[true, true, true, true, true, true, true, true, true, true, true, true, true, true, true, true, true, false] rfl rfl (by kernel_rfl) (by decide) (fun K hK => ?_)
      refine step_store_part _ (by rfl) rfl (.tmp 14) (.tmp 123) 57 rfl h 0 ((sC (letL x.s (x.c.N 0) mm.place (mm.holder : Int) mm.epoch).1 m1)) rfl rfl size57 rfl 57 _ HZ.out (Nat.le_refl _) ((sC (letL x.s (x.c.N 0) mm.place (mm.holder : Int) mm.epoch).1 m1)) rfl ?_
      intro w7 hb7 hfr
      have HY7 := Lib.hid hb7
      have HQ7 := Lib.hid (hHeld.2.1.away hfr hneq)
      have HE7 := Lib.hid ((HE.out.o hHeld.2.2).away HZ.out (by decide) (Nat.le_trans HS3.out hge) hne hfr)
      have HR7 := Lib.hid ((HR.out.o hHeld.2.2).away hfr (Nat.ne_of_lt (Nat.lt_of_lt_of_le HR.out.lt hge)))
      have HM1 := Lib.hid (mapIs_far HM1.out HZ.out hfr)
      have q1 : w7.cell? ⟨q, 1, none⟩ = some (.int .i64 (mm.holder : Int)) := HQ7.out.cell 1
      clear hb7 hfr hHeld
      refine hK.out _ _ ?_
      clear hK K
      try simp only [Act.put, List.setIfInBounds_toArray, List.set_cons_zero, List.set_cons_succ]
      refine pure_ (i := 17) (N := some 15) (v := ?_) (a' := ?_) #[true, true, true, true, true, true, true, true, true, true, true, true, true, true, true, true, true, true] rfl rfl (by kernel_rfl) (fun _ _ _ h => h) (Or.inl ⟨by rfl, ?_⟩) ?_ ?_
      rotate_left
      · intro w'
        go_simp
        (try with_reducible rfl)
      rotate_left
      · simp only [Act.put, List.setIfInBounds_toArray, List.set_cons_zero, List.set_cons_succ]
        rfl
      refine done_ (by kernel_rfl) ?_
    rotate_left 1
    exact AllReadyL.nil
  rotate_left 2
  refine AllReadyL.cons (o := ⟨some 14, Go.Op.alloc 57, 0, "outright.go:64", #[], none⟩) rfl (by decide) (fun K hK => ?_) ?_
  focus
    refine step_alloc (by rfl) rfl (cs := #[.int .i64 0, .int .i64 0, .map none]) (t := 57) ?hr ?_
    (case hr => first | (go_simp; done) | (go_simp; rfl))
    intro h hh W7 hbox hO
    have HZ := Lib.hid hbox
    have hne : g ≠ h := (by rw [hh]; exact Nat.ne_of_lt hHeld.1.lt)
    have hneq : q ≠ h := (by rw [hh]; exact Nat.ne_of_lt hHeld.2.1.lt)
    have hge : W3.heap.size ≤ h := (by rw [hh]; exact hHeld.2.2.size)
    (try have HM1 := Lib.hid (mapIs_out HM1.out hO))
    clear hh hbox
    refine hK.out _ _ (⟨hHeld.1.o hO, hHeld.2.1.o hO, hHeld.2.2.thens hO⟩) (fun hHeld => ?_)
    clear hK K
    try simp only [Act.put, List.setIfInBounds_toArray, List.set_cons_zero, List.set_cons_succ]
    refine one_ (i := 4) (N := some 115) (oi := ⟨some 115, Go.Op.call ⟨Go.Callee.value (Go.Operand.func 21), #[Go.Operand.tmp 114, Go.Operand.const (Go.Value.int Go.IntKind.i64 0)], #[24, 3]⟩, 3, "outright.go:64", #[⟨3, Go.Ground.data⟩], none⟩) #[true, true, true, true, true, true, true, true, true, true, true, false, false, false, false, true, false, false] rfl rfl (by kernel_rfl) (by decide) (fun K hK => ?_)
    rw [if_pos (by rfl)]
    go_simp
    (go_at_call 21; (with_reducible refine (HNow0.out _ hHeld.2.2).mono ?_); rintro e5 W5 ⟨rfl, rfl⟩)
    refine hK.out _ _ (hHeld) (fun hHeld => ?_)
    clear hK K
    try simp only [Act.put, List.setIfInBounds_toArray, List.set_cons_zero, List.set_cons_succ]
    refine one_ (i := 11) (N := some 122) (oi := ⟨some 122, Go.Op.call ⟨Go.Callee.value (Go.Operand.func 36), #[Go.Operand.tmp 112, Go.Operand.tmp 115, Go.Operand.tmp 117, Go.Operand.tmp 119, Go.Operand.tmp 121], #[57, 3, 3, 3, 3]⟩, 67, "outright.go:64", #[⟨1, Go.Ground.data⟩, ⟨4, Go.Ground.data⟩, ⟨6, Go.Ground.data⟩, ⟨8, Go.Ground.data⟩, ⟨10, Go.Ground.data⟩, ⟨4, Go.Ground.chain⟩], none⟩) #[true, true, true, true, true, true, true, true, true, true, true, true, false, false, false, true, false, false] rfl rfl (by kernel_rfl) (by decide) (fun K hK => ?_)
    rw [if_pos (by rfl)]
    go_simp
    (go_at_call 36; (with_reducible refine (HLet.out _ hHeld.2.2).mono ?_); rintro e6 W9 ⟨m1, rfl, hm1, hX6, hV6⟩; have HM1 := Lib.hid hm1; clear hm1; (try have HZ := Lib.hid (HZ.out.o hV6)))
    refine hK.out _ _ (⟨hHeld.1.o hV6, hHeld.2.1.o hV6, hX6⟩) (fun hHeld => ?_)
    clear hK K
    try simp only [Act.put, List.setIfInBounds_toArray, List.set_cons_zero, List.set_cons_succ]
    refine pure_ (i := 12) (N := some 110) (v := ?_) (a' := ?_) #[true, true, true, true, true, true, true, true, true, true, true, true, true, false, false, true, false, false] rfl rfl (by kernel_rfl) (fun _ _ _ h => h) (Or.inl ⟨by rfl, ?_⟩) ?_ ?_
    rotate_left
    · intro w'
      go_simp
      (try with_reducible rfl)
    rotate_left
    · simp only [Act.put, List.setIfInBounds_toArray, List.set_cons_zero, List.set_cons_succ]
      rfl
    refine pure_ (i := 13) (N := some 123) (v := ?_) (a' := ?_) #[true, true, true, true, true, true, true, true, true, true, true, true, true, true, false, true, false, false] rfl rfl (by kernel_rfl) (fun _ _ _ h => h) (Or.inl ⟨by rfl, ?_⟩) ?_ ?_
    rotate_left
    · intro w'
      go_simp
      (try with_reducible rfl)
    rotate_left
    · simp only [Act.put, List.setIfInBounds_toArray, List.set_cons_zero, List.set_cons_succ]
      rfl
    refine pure_ (i := 14) (N := some 124) (v := ?_) (a' := ?_) #[true, true, true, true, true, true, true, true, true, true, true, true, true, true, true, true, false, false] rfl rfl (by kernel_rfl) (fun _ _ _ h => h) (Or.inl ⟨by rfl, ?_⟩) ?_ ?_
    rotate_left
    · intro w'
      go_simp
      (try with_reducible rfl)
    rotate_left
    · simp only [Act.put, List.setIfInBounds_toArray, List.set_cons_zero, List.set_cons_succ]
      rfl
    refine last_ (i := 16) (N := none) (oi := ⟨none, Go.Op.store 57 (Go.Operand.tmp 14) (Go.Operand.tmp 123), 0, "outright.go:64", #[⟨15, Go.Ground.data⟩, ⟨13, Go.Ground.data⟩, ⟨11, Go.Ground.chain⟩, ⟨0, Go.Ground.phase⟩, ⟨1, Go.Ground.phase⟩, ⟨2, Go.Ground.phase⟩, ⟨3, Go.Ground.phase⟩, ⟨4, Go.Ground.phase⟩, ⟨5, Go.Ground.phase⟩, ⟨6, Go.Ground.phase⟩, ⟨7, Go.Ground.phase⟩, ⟨8, Go.Ground.phase⟩, ⟨9, Go.Ground.phase⟩, ⟨10, Go.Ground.phase⟩, ⟨11, Go.Ground.phase⟩, ⟨12, Go.Ground.phase⟩, ⟨13, Go.Ground.phase⟩, { on := 14, ground := Go.Ground.textOnly Go.Departure.lateStores }, ⟨15, Go.Ground.phase⟩], none⟩) #[true, true, true, true, true, true, true, true, true, true, true, true, true, true, true, true, true, false] rfl rfl (by kernel_rfl) (by decide) (fun K hK => ?_)
    refine step_store_part _ (by rfl) rfl (.tmp 14) (.tmp 123) 57 rfl h 0 ((sC (letL x.s (x.c.N 0) mm.place (mm.holder : Int) mm.epoch).1 m1)) rfl rfl size57 rfl 57 _ HZ.out (Nat.le_refl _) ((sC (letL x.s (x.c.N 0) mm.place (mm.holder : Int) mm.epoch).1 m1)) rfl ?_
    intro w7 hb7 hfr
    have HY7 := Lib.hid hb7
    have HQ7 := Lib.hid (hHeld.2.1.away hfr hneq)
    have HE7 := Lib.hid ((HE.out.o hHeld.2.2).away HZ.out (by decide) (Nat.le_trans HS3.out hge) hne hfr)
    have HR7 := Lib.hid ((HR.out.o hHeld.2.2).away hfr (Nat.ne_of_lt (Nat.lt_of_lt_of_le HR.out.lt hge)))
    have HM1 := Lib.hid (mapIs_far HM1.out HZ.out hfr)
    have q1 : w7.cell? ⟨q, 1, none⟩ = some (.int .i64 (mm.holder : Int)) := HQ7.out.cell 1
    clear hb7 hfr hHeld
    refine hK.out _ _ ?_
    clear hK K
    try simp only [Act.put, List.setIfInBounds_toArray, List.set_cons_zero, List.set_cons_succ]
    refine pure_ (i := 17) (N := some 15) (v := ?_) (a' := ?_) #[true, true, true, true, true, true, true, true, true, true, true, true, true, true, true, true, true, true] rfl rfl (by kernel_rfl) (fun _ _ _ h => h) (Or.inl ⟨by rfl, ?_⟩) ?_ ?_
    rotate_left
    · intro w'
      go_simp
      (try with_reducible rfl)
    rotate_left
    · simp only [Act.put, List.setIfInBounds_toArray, List.set_cons_zero, List.set_cons_succ]
      rfl
    refine done_ (by kernel_rfl) ?_
  rotate_left 1
  exact AllReadyL.nil
  all_goals
    go_wp2_with (first
        | ((with_reducible refine gate_dst (N := 125) rfl ?_); refine wpList_load_part _ rfl (.tmp 14) 57 rfl h 0 (sC (letL x.s (x.c.N 0) mm.place (mm.holder : Int) mm.epoch).1 m1) rfl agg57 size57 57 _ HY7.out (fun j u hj => (by rw [Nat.zero_add]; simpa using hj)) ?_)
        | (refine wpList_store_part _ rfl (.tmp 126) (.tmp 125) 57 rfl g 1 (sC (letL x.s (x.c.N 0) mm.place (mm.holder : Int) mm.epoch).1 m1) rfl rfl size57 rfl 109 _ HE7.out.blk (by show 4 ≤ 24; omega) (WC { x with s := (letL x.s (x.c.N 0) mm.place (mm.holder : Int) mm.epoch).1 } p m1 a b v term margin) (WC_setS (letL x.s (x.c.N 0) mm.place (mm.holder : Int) mm.epoch).1 m1) ?_; intro w8 hb8 hfr8; have HR8 := Lib.hid (HR7.out.away hfr8 hgr.symm); have HQ8 := Lib.hid (HQ7.out.away hfr8 hgq.symm); have HE8 := Lib.hid (HE7.out.withS HM1.out hb8 hfr8); clear hb8 hfr8)
        | ((with_reducible refine gate_dst (N := 127) rfl ?_); refine wpList_load_part _ rfl (.tmp 2) 109 rfl g 0 (WC { x with s := (letL x.s (x.c.N 0) mm.place (mm.holder : Int) mm.epoch).1 } p m1 a b v term margin) rfl agg109 size109 109 _ HE8.out.blk (fun j u hj => (by rw [Nat.zero_add]; simpa using hj)) ?_)
        | (refine wpList_store_part _ rfl (.tmp 4) (.tmp 127) 109 rfl r 0 (WC { x with s := (letL x.s (x.c.N 0) mm.place (mm.holder : Int) mm.epoch).1 } p m1 a b v term margin) rfl rfl size109 HE8.out.wd.one 109 _ HR8.out (Nat.le_refl _) (WC { x with s := (letL x.s (x.c.N 0) mm.place (mm.holder : Int) mm.epoch).1 } p m1 a b v term margin) rfl ?_; intro w9 hb9 hfr9; have HR9 := Lib.hid hb9; have HE9 := Lib.hid (HE8.out.away HR8.out (by decide) hrw hgr hfr9); clear hb9 hfr9)
        | fail)
    exact bodyPost_ret (results_blk1 Try.results65 _ _ r (WC { x with s := (letL x.s (x.c.N 0) mm.place (mm.holder : Int) mm.epoch).1 } p m1 a b v term margin) rfl agg109 size109 HR9.out) rfl ⟨_, _, _, _, rfl, HE9.out.wd, HE9.out.out⟩
end Go.Proofs.Ytefllgpehhlkoaa.Mar
