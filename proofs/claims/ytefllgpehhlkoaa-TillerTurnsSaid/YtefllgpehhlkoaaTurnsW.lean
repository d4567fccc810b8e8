/-
  TillerTurns, its walk.
-/
import Derived.Test.YtefllgpehhlkoaaTurnsA
import Derived.Deep.RegionHeld3
import Derived.Deep.DeepCutAuto
import Derived.Deep.LoopGhost
import Derived.Deep.Light
namespace Go.Proofs.Ytefllgpehhlkoaa
open Go.RowKit Go.Maps
set_option linter.unusedVariables false

set_option maxRecDepth 100000 in
set_option maxHeartbeats 16000000 in
theorem turns_any (w : World) (term margin : Int) (al : Option Addr) (cap : Nat) (l0 l : List Int) (hl : l = l0.take 100) (hrow : Sl w w.heap.size al cap l0) (hcap : cap ≤ 9223372036854775807) (a g : Nat)
    (h1 : 1 ≤ term) (h2 : term ≤ 1000) (h3 : 0 ≤ margin) (h4 : margin ≤ 1000) (h5 : a ≤ g) (h6 : g ≤ l.length) :
    Calls Try.prog 13 #[.agg #[.int .i64 term, .int .i64 margin], .slice al l0.length cap, .int .i64 a, .int .i64 g] w (TrueOnly w) := by
  have hO : Hid (Only w.heap.size w.heap.size w w) := Lib.hid (Only.refl _ _ _)
  have HR : Hid (∀ W, Only w.heap.size w.heap.size w W → Calls Try.prog 15 #[.slice al l0.length cap, .int .i64 100] W (NewRow W l)) := Lib.hid (fun W oW => by
    rw [hl]
    exact few_any W cap al l0 ((hrow.kept oW (Nat.le_refl _) (Nat.le_refl _)).mono oW.size) 100 (by omega) hcap)
  have HG0 : Hid (grantL ⟨0, 0, []⟩ 5 10 1 7 = (⟨1, 0, [(1, (7, 1, 15))]⟩, 1, 0)) := Lib.hid aw1
  have hll : l.length ≤ 100 := by rw [hl]; simp; omega
  clear hrow hcap hl
  go_enter Try.func13, Try.ntmps13
  have hbs := fun W => new_some 3 W (by decide) (by decide)
  have HN := Lib.hid hbs
  have hX0 : Hid (∀ W, Out (w.alloc (.cells #[.int .i64 term, .int .i64 margin] 37)) W → W.cell? ⟨w.heap.size, 0, none⟩ = some (.int .i64 term) ∧ W.cell? ⟨w.heap.size, 1, none⟩ = some (.int .i64 margin)) := Lib.hid (fun W o => by
    have hp := pair_at (at_top w (.cells #[.int .i64 term, .int .i64 margin] 37) w.heap.size rfl)
    exact ⟨(o.cell (by simp) (.inl (by simp))).trans hp.1, (o.cell (by simp) (.inl (by simp))).trans hp.2⟩)
  have hag : ¬ ((g : Int) < (a : Int)) := by omega
  clear hbs
  go_wp2_with (first
    | (go_at_call 34; (with_reducible refine Calls.mono (grantL_from (Only.refl _ _ _) (S := ⟨0, 0, []⟩) (S' := ⟨1, 0, [(1, (7, 1, 15))]⟩) (m := none) (mapis_none _) rfl rfl rfl rfl (WalkArith.wf_i64 (by decide)) (by decide) (few_nil _) HG0.out) ?_); rintro e W1 ⟨mm, rfl, x1', ho', _⟩; have o1 : Hid (Out (w.alloc (.cells #[.int .i64 term, .int .i64 margin] 37)) (W1.alloc (.cells #[.int .i64 1, .int .i64 0, .map mm] 57))) := Lib.hid (ho'.alloc _); clear x1' ho')
    | (go_at_call 15; (refine (HR.out _ ((hO.out.alloc _).then o1.out (by simp))).mono ?_; rintro e W2 ⟨a1, cap1, rfl, hs1, ho1⟩; have HS1 := Lib.hid hs1; have o2 := Lib.hid (o1.out.thens ho1); have pp := hX0.out _ o2.out; obtain ⟨p0, p1⟩ := pp; clear hs1 ho1))
    | (go_at_call 17; (refine (HN.out _).mono ?_; rintro e W3 ⟨p, rfl, hc3, ho3⟩; have HC3 := Lib.hid hc3; have o3 := Lib.hid ho3; clear hc3 ho3))
    | fail)
  have HT0 : Hid (Tt w ((W3.alloc (.cells #[.int .i64 0, .int .i64 0, .map none] 57)).alloc (.cells #[.int .i64 0, .int .i64 0, .map none, .map none] 41)) w.heap.size W2.heap.size W3.heap.size p term margin a1 cap1 l 0 ls0 none hs0 none none) := by
    have oA : Out W2 ((W3.alloc (.cells #[.int .i64 0, .int .i64 0, .map none] 57)).alloc (.cells #[.int .i64 0, .int .i64 0, .map none, .map none] 41)) := (o3.out.alloc _).alloc _
    have oB := o2.out.thens oA
    have hp := hX0.out _ oB
    have s2 := o2.out.size
    have s3 := clk_full HC3.out
    simp at s2
    refine ⟨hp.1, hp.2, HS1.out.kept oA (Nat.le_refl _) (Nat.le_refl _), HC3.out.kept (((Only.refl W3.heap.size W3.heap.size W3).alloc _).alloc _) (.inl s3), ?_, ?_, (hO.out.alloc _).then oB (by simp), by omega, s3, Nat.le_refl _⟩
    · exact (LVar.new (w := W3) (h := ls0) (m := none) rfl).kept ((Only.refl _ _ _).alloc _)
    · have := HVar.new (w := W3.alloc (.cells #[.int .i64 0, .int .i64 0, .map none] 57)) (h := hs0) (m1 := none) (m2 := none) rfl rfl
      show HVar ((W3.alloc (.cells #[.int .i64 0, .int .i64 0, .map none] 57)).alloc (.cells #[.int .i64 hs0.life, .int .i64 hs0.count, .map none, .map none] 41)) (W3.heap.size + 1) hs0 none none
      simpa using this
  clear p0 p1
  generalize ((W3.alloc (.cells #[.int .i64 0, .int .i64 0, .map none] 57)).alloc (.cells #[.int .i64 0, .int .i64 0, .map none, .map none] 41)) = wl at HT0 ⊢
  go_loopg [16, 17, 18] (l.length + 1) (fun gk nv fv iv W => TtRel w w.heap.size W2.heap.size W3.heap.size p term margin a1 cap1 l a g gk nv fv iv W)
  case atStart => exact ⟨0, 0, 0, none, none, none, by omega, by omega, rfl, rfl, rfl, by simp, by unfold sSt hSt; simpa using HT0.out⟩
  case round =>
    obtain ⟨k, num, fi, ms, m1, m2, rfl, hk, rfl, rfl, rfl, hph, ht⟩ := hrel
    have HT := Lib.hid ht
    have HPH := Lib.hid hph
    clear ht hph
    by_cases hkl : k ≤ l.length
    · have hkl' : (k : Int) ≤ (l.length : Int) := by omega
      have p1 := HT.out.p1
      have HW : Hid (∀ n, Calls Try.prog 24 #[.pointer (some ⟨p, 0, none⟩)] (wr.drewN n) fun e w' => e = .returned (.int .i64 ((atK 3 l k).worst 3)) ∧ ∃ m, w' = (wr.drewN n).drewN m) := Lib.hid (fun n => worst_any (wr.drewN n) _ _ p 3 100 (atK 3 l k) (HT.out.clk.kept ((Only.refl 0 0 wr).drewN n) (.inr (Nat.zero_le _))) (atK_bd 3 l k hll) (by decide) (by decide))
      by_cases hwm : margin < (atK 3 l k).worst 3
      · have hwd : decide (margin < (atK 3 l k).worst 3) = true := decide_eq_true hwm
        go_wp2_with fail
        go_quiet ((go_at_call 24; exact Calls.quiet_of (HW.out _)))
        go_wp2
        go_ret
        exact ⟨rfl, HT.out.only.drewN _⟩
      · have hwd : decide (margin < (atK 3 l k).worst 3) = false := decide_eq_false hwm
        have HWM := Lib.hid hwm
        clear hwm
        go_wp2_with fail
        go_quiet ((go_at_call 24; exact Calls.quiet_of (HW.out _)))
        have HT1 := Lib.hid (HT.out.kept ((Only.refl _ _ _).drewN nq))
        clear HT HW p1
        generalize wr.drewN nq = wq at HT1 ⊢
        have HBD := Lib.hid (atK_bd 3 l k hll)
        go_upto_if 104 with (fail)
        have h16 : hSt l a g term margin k = hSt l a g term margin k := rfl
        go_cut [16] (fun s16 wx => ∃ (H : HS) (n1 n2 : Option Nat) (nm : Int), s16 = .int .i64 nm ∧ (H = (if k < a then hs0 else if k ≤ g then hs1 ((atK 3 l a).N 1) else hSt l a g term margin k) ∧ nm = (if k < a then 0 else 1)) ∧ Tt w wx w.heap.size W2.heap.size W3.heap.size p term margin a1 cap1 l k (sSt l g term k) ms H n1 n2)
        case first => as_aux_lemma =>
          by_cases hka : k = a
          · have hkd : ((k : Int) == (a : Int)) = true := by simp [hka]
            have hH0 : hSt l a g term margin k = hs0 := by unfold hSt; rw [if_pos (by omega)]
            have HT2 : Hid (Tt w wq w.heap.size W2.heap.size W3.heap.size p term margin a1 cap1 l k (sSt l g term k) ms hs0 m1 m2) := Lib.hid (by rw [← hH0]; exact HT1.out)
            have HA1 : Hid (0 ≤ (atK 3 l k).N 1 ∧ (atK 3 l k).N 1 ≤ 100) := Lib.hid (HBD.out.1 1)
            have HAE : Hid (askH hs0 ((atK 3 l k).N 1) 9 = (hs1 ((atK 3 l k).N 1), 1, 0)) := Lib.hid (tt_ask _ HA1.out.1 HA1.out.2)
            obtain ⟨b0, b1, b2, b3, _⟩ := HT2.out.hv.box
            have HLT := Lib.hid HT2.out.hv.lt
            dsimp only [hs0] at b0 b1
            have HKA := Lib.hid hka
            clear hH0 hka
            have hne := World.new_ne wq _ b0
            have HZ : Hid (HVar ((wq.alloc (.cells #[.int .i64 0, .int .i64 0, .map none, .map none] 41)).drew) wq.heap.size hs0 none none) := Lib.hid ((HVar.new (w := wq) (h := hs0) (m1 := none) (m2 := none) rfl rfl).kept (Only.drew (Only.refl _ _ _)))
            have HCA := Lib.hid (fun V (hX : Out wq V) => ask_from hX (H := hs0) (H' := hs1 ((atK 3 l k).N 1)) (li := 0) (co := 0) (li' := 0) (co' := 1) HT2.out.hv.wants HT2.out.hv.has rfl rfl rfl rfl (WalkArith.wf_i64 (by decide)) (by decide) HAE.out)
            have HCN := Lib.hid (fun V (hX : Out wq V) => now1_from hX HT2.out.clk)
            go_wp2_with fail
            go_cut [19, 20, 21] (fun s19 s20 s21 wx => ∃ (B9 : Nat) (n1 n2 : Option Nat), s19 = .pointer (some ⟨B9, 0, none⟩) ∧ s20 = .int .i64 1 ∧ s21 = .int .i64 0 ∧ HVar wx B9 (hs1 ((atK 3 l k).N 1)) n1 n2 ∧ Tt w wx w.heap.size W2.heap.size W3.heap.size p term margin a1 cap1 l k (sSt l g term k) ms hs0 m1 m2)
            case first => as_aux_lemma =>
              go_region_held3 (fun W => W.cell? ⟨W3.heap.size + 1, 0, none⟩ = some (.int .i64 0) ∧ W.cell? ⟨W3.heap.size + 1, 1, none⟩ = some (.int .i64 0) ∧ W.cell? ⟨W3.heap.size + 1, 2, none⟩ = some (.map m1) ∧ W.cell? ⟨W3.heap.size + 1, 3, none⟩ = some (.map m2)) (go_keep)
                (first
                  | (go_at_call 21; (with_reducible refine Calls.mono (HCN.out _ ?_) ?_); (focus (repeat (first | exact Only.refl _ _ _ | exact hoc.out | refine Only.drew ?_ | refine Only.drewN _ ?_ | refine Only.alloc ?_ _))); rintro e W5 ⟨rfl, rfl⟩)
                  | (go_at_call 26; (with_reducible refine Calls.mono (HCA.out _ ?_) ?_); (focus (repeat (first | exact Only.refl _ _ _ | exact hoc.out | refine Only.drew ?_ | refine Only.drewN _ ?_ | refine Only.alloc ?_ _))); rintro e W6 ⟨n1, n2, rfl, hy, hoc2, hv2⟩; (try (have hzz := HZ.out.kept hv2; obtain ⟨z0, z1, z2, z3, zf⟩ := hzz.box; dsimp only [hs0] at z0 z1; have zf0 := zf 0; have zf1 := zf 1; have zf2 := zf 2; have zf3 := zf 3; have HZZ := Lib.hid hzz; clear zf hzz)); clear hv2; have HY := Lib.hid hy; have hbx := (HT2.out.kept hoc2).hv.box; obtain ⟨c0, c1, c2, c3, _⟩ := hbx; dsimp only [hs0] at c0 c1; have hnw := World.new_ne W6 _ c0; have hoc := Lib.hid hoc2; clear hoc2 hy))
              all_goals go_wp2_with fail
              all_goals go_meet
              all_goals first
                | exact ⟨_, _, _, rfl, rfl, rfl, HVar.new (h := hs1 ((atK 3 l k).N 1)) HY.out.1 HY.out.2, HT2.out.kept (hoc.out.alloc _)⟩
                | (have hF := HZZ.out.set (h' := hs1 ((atK 3 l k).N 1)) HY.out.1 HY.out.2
                   have hO6 := hoc.out.fresh (four_only W6 wq.heap.size (hs1 ((atK 3 l k).N 1)).life (hs1 ((atK 3 l k).N 1)).count n1 n2)
                   unfold World.four at hF hO6
                   exact ⟨_, _, _, rfl, rfl, rfl, hF, HT2.out.kept hO6⟩)
            case rest =>
              obtain ⟨B9, n1, n2, rfl, rfl, rfl, hv9, ht9⟩ := hcut
              have HV9 := Lib.hid hv9
              have HT9 := Lib.hid ht9
              clear b0 b1 b2 b3 hne
              obtain ⟨c0, c1, c2, c3, _⟩ := hv9.box
              obtain ⟨b0, b1, b2, b3, bf⟩ := ht9.hv.box
              have bf0 := bf 0
              have bf1 := bf 1
              have bf2 := bf 2
              have bf3 := bf 3
              dsimp only [hs0] at b0 b1
              dsimp only [hs1] at c0 c1
              clear hv9 ht9 bf
              go_wp2_with fail
              go_meet
              have HX := HT9.out.setH (H' := hs1 ((atK 3 l k).N 1)) HV9.out.wants HV9.out.has
              unfold World.four at HX
              refine ⟨_, n1, n2, 1, rfl, ⟨?_, ?_⟩, HX⟩
              · have h7 := HKA.out
                subst h7
                rw [if_neg (by omega), if_pos h5]
              · have h7 := HKA.out
                rw [if_neg (by omega)]
          · have hkd : ((k : Int) == (a : Int)) = false := beq_eq_false_iff_ne.2 (by omega)
            go_wp2_with fail
            go_meet
            refine ⟨_, m1, m2, num, rfl, ⟨?_, ?_⟩, HT1.out⟩
            · unfold hSt
              by_cases hx : k < a
              · rw [if_pos (by omega), if_pos hx]
              · rw [if_neg (by omega), if_neg hx]
                by_cases hy : k ≤ g
                · rw [if_pos hy, if_pos hy]
                · rw [if_neg hy, if_neg hy]
            · rw [HPH.out.1]
              by_cases hx : k < a
              · rw [if_pos (by omega), if_pos hx]
              · rw [if_neg (by omega), if_neg hx]
        case rest =>
          obtain ⟨H, n1, n2, nm, rfl, hHH, ht2⟩ := hcut
          have HT3 := Lib.hid ht2
          have HHH := Lib.hid hHH
          clear ht2 hHH HT1
          rename_i wz
          go_upto_if 119 with (fail)
          go_cut [17] (fun s17 wx => ∃ (S : LS) (H' : HS) (n3 n4 n5 : Option Nat) (fi' : Int), s17 = .int .i64 fi' ∧ (S = (if k < g then ls0 else ls1 ((atK 3 l g).N 0) term) ∧ H' = hSt l a g term margin (k + 1) ∧ fi' = (if k < g then 0 else 1)) ∧ Tt w wx w.heap.size W2.heap.size W3.heap.size p term margin a1 cap1 l k S n3 H' n4 n5)
          case first => as_aux_lemma =>
            by_cases hkg : k = g
            · have hkd : ((k : Int) == (g : Int)) = true := by simp [hkg]
              have HKG := Lib.hid hkg
              obtain rfl : nm = 1 := by rw [HHH.out.2, if_neg (by omega)]
              have HH2 : Hid (H = hs1 ((atK 3 l a).N 1) ∧ sSt l g term k = ls0) := Lib.hid ⟨by rw [HHH.out.1, if_neg (by omega), if_pos (by omega)], by unfold sSt; rw [if_pos (by omega)]⟩
              have HT4 : Hid (Tt w wc w.heap.size W2.heap.size W3.heap.size p term margin a1 cap1 l k ls0 ms (hs1 ((atK 3 l a).N 1)) n1 n2) := Lib.hid (by rw [← HH2.out.1, ← HH2.out.2]; exact HT3.out)
              have HA0 : Hid (0 ≤ (atK 3 l k).N 0 ∧ (atK 3 l k).N 0 ≤ 100) := Lib.hid (HBD.out.1 0)
              have HGR : Hid (grantL ls0 ((atK 3 l k).N 0) term 9 1 = (⟨1, 0, [(9, (1, 1, (atK 3 l k).N 0 + term))]⟩, 1, 0)) := Lib.hid (tt_grant _ term HA0.out.1 HA0.out.2 h1 h2 1 (by decide))
              have HGA := Lib.hid (fun V (hX : Out wc V) => grantL_from hX (S := ls0) (S' := ⟨1, 0, [(9, (1, 1, (atK 3 l k).N 0 + term))]⟩) (ep := 0) (qu := 0) (ep' := 1) (qu' := 0) HT4.out.sv.hs rfl rfl rfl rfl (WalkArith.wf_i64 (by decide)) (by decide) (few_nil _) HGR.out)
              have HN0 := Lib.hid (fun V (hX : Out wc V) => now0_from hX HT4.out.clk)
              have HZ : Hid (LVar ((wc.alloc (.cells #[.int .i64 0, .int .i64 0, .map none] 57)).drew) wc.heap.size ls0 none) := Lib.hid ((LVar.new (w := wc) (h := ls0) (m := none) rfl).kept (Only.drew (Only.refl _ _ _)))
              obtain ⟨b0, b1, b2, _⟩ := HT4.out.sv.box
              dsimp only [ls0] at b0 b1
              have q0 := HT4.out.p0
              have hne := World.new_ne wc _ b0
              have hne2 := World.new_ne wc _ q0
              clear hkg
              go_wp2_with fail
              go_cut [22, 23, 24] (fun s22 s23 s24 wx => ∃ (B9 : Nat) (n3 : Option Nat), s22 = .pointer (some ⟨B9, 0, none⟩) ∧ s23 = .int .i64 1 ∧ s24 = .int .i64 0 ∧ LVar wx B9 (ls1 ((atK 3 l k).N 0) term) n3 ∧ Tt w wx w.heap.size W2.heap.size W3.heap.size p term margin a1 cap1 l k ls0 ms (hs1 ((atK 3 l a).N 1)) n1 n2)
              case first => as_aux_lemma =>
                go_region_held3 (fun W => (W.cell? ⟨W3.heap.size, 0, none⟩ = some (.int .i64 0) ∧ W.cell? ⟨W3.heap.size, 1, none⟩ = some (.int .i64 0) ∧ W.cell? ⟨W3.heap.size, 2, none⟩ = some (.map ms)) ∧ W.cell? ⟨w.heap.size, 0, none⟩ = some (.int .i64 term)) (go_keep)
                  (first
                    | (go_at_call 21; (with_reducible refine Calls.mono (HN0.out _ ?_) ?_); (focus (repeat (first | exact Only.refl _ _ _ | exact hoc.out | refine Only.drew ?_ | refine Only.drewN _ ?_ | refine Only.alloc ?_ _))); rintro e W5 ⟨rfl, rfl⟩)
                    | (go_at_call 34; (with_reducible refine Calls.mono (HGA.out _ ?_) ?_); (focus (repeat (first | exact Only.refl _ _ _ | exact hoc.out | refine Only.drew ?_ | refine Only.drewN _ ?_ | refine Only.alloc ?_ _))); rintro e W6 ⟨n3, rfl, hy, hoc2, hv2⟩; (try (have hzz := HZ.out.kept hv2; obtain ⟨z0, z1, z2, zf⟩ := hzz.box; dsimp only [ls0] at z0 z1; have zf0 := zf 0; have zf1 := zf 1; have zf2 := zf 2; have HZZ := Lib.hid hzz; clear zf hzz)); clear hv2; have HY := Lib.hid hy; have hk4 := HT4.out.kept hoc2; obtain ⟨c0, c1, c2, _⟩ := hk4.sv.box; have c3 := hk4.p0; dsimp only [ls0] at c0 c1; have hnw := World.new_ne W6 _ c0; have hnw2 := World.new_ne W6 _ c3; have hoc := Lib.hid hoc2; clear hoc2 hy hk4))
                all_goals go_wp2_with fail
                all_goals go_meet
                all_goals first
                  | exact ⟨_, _, rfl, rfl, rfl, LVar.new (h := ls1 ((atK 3 l k).N 0) term) HY.out, HT4.out.kept (hoc.out.alloc _)⟩
                  | (have hF := HZZ.out.set (h' := ls1 ((atK 3 l k).N 0) term) HY.out
                     have hO6 := hoc.out.fresh (three_only W6 wc.heap.size (ls1 ((atK 3 l k).N 0) term).epoch (ls1 ((atK 3 l k).N 0) term).quiet n3)
                     unfold World.three at hF hO6
                     exact ⟨_, _, rfl, rfl, rfl, hF, HT4.out.kept hO6⟩)
              case rest =>
                obtain ⟨B9, n3, rfl, rfl, rfl, hv9, ht9⟩ := hcut
                have HV9 := Lib.hid hv9
                have HT9 := Lib.hid ht9
                clear b0 b1 b2 hne hne2 q0
                obtain ⟨c0, c1, c2, _⟩ := hv9.box
                obtain ⟨b0, b1, b2, bf⟩ := ht9.sv.box
                have bf0 := bf 0
                have bf1 := bf 1
                have bf2 := bf 2
                dsimp only [ls0] at b0 b1
                dsimp only [ls1] at c0 c1
                clear hv9 ht9 bf
                have HGG : Hid (grantH (hs1 ((atK 3 l a).N 1)) ((atK 3 l k).N 1) term margin 9 1 1 = (hs2 ((atK 3 l a).N 1) ((atK 3 l k).N 1) term margin, (grantH (hs1 ((atK 3 l a).N 1)) ((atK 3 l k).N 1) term margin 9 1 1).2)) := Lib.hid (by
                  have e1 := (atK_bd 3 l a hll).1 1
                  have e2 := HBD.out.1 1
                  rw [← tt_granted _ _ term margin e1.1 e1.2 e2.1 e2.2 h1 h2 h3 h4])
                have HLI : Hid ((hs2 ((atK 3 l a).N 1) ((atK 3 l k).N 1) term margin).life = 0 ∧ (hs2 ((atK 3 l a).N 1) ((atK 3 l k).N 1) term margin).count = 1) := Lib.hid (by unfold hs2; split <;> exact ⟨rfl, rfl⟩)
                have HXS := Lib.hid (HT9.out.setS (S' := ls1 ((atK 3 l k).N 0) term) HV9.out.hs)
                have HXT : Hid (Tt w (((wc.setCell ⟨W3.heap.size, 0, none⟩ (.int .i64 1)).setCell ⟨W3.heap.size, 1, none⟩ (.int .i64 0)).setCell ⟨W3.heap.size, 2, none⟩ (.map n3)) w.heap.size W2.heap.size W3.heap.size p term margin a1 cap1 l k (ls1 ((atK 3 l k).N 0) term) n3 (hs1 ((atK 3 l a).N 1)) n1 n2) := by
                  have h := HXS.out
                  unfold World.three at h
                  exact h
                go_wp2_with fail
                clear HXS b0 b1 b2 c0 c1 c2 bf0 bf1 bf2 HV9 HT9
                generalize (((wc.setCell ⟨W3.heap.size, 0, none⟩ (.int .i64 1)).setCell ⟨W3.heap.size, 1, none⟩ (.int .i64 0)).setCell ⟨W3.heap.size, 2, none⟩ (.map n3)) = wt at HXT ⊢
                have HN1 := Lib.hid (fun V (hX : Out wt V) => now1_from hX HXT.out.clk)
                have HGD := Lib.hid (fun V (hX : Out wt V) => granted_from hX (H := hs1 ((atK 3 l a).N 1)) (H' := hs2 ((atK 3 l a).N 1) ((atK 3 l k).N 1) term margin) (li := 0) (co := 1) (li' := 0) (co' := 1) HXT.out.hv.wants HXT.out.hv.has rfl rfl HLI.out.1 HLI.out.2 (WalkArith.wf_i64 (by decide)) (Nat.zero_lt_succ _) HGG.out)
                obtain ⟨b0, b1, b2, b3, bf⟩ := HXT.out.hv.box
                dsimp only [hs1] at b0 b1
                have q0 := HXT.out.p0
                have q1 := HXT.out.p1
                have bf0 := bf 0
                have bf1 := bf 1
                have bf2 := bf 2
                have bf3 := bf 3
                clear bf
                go_cut [16] (fun s16 wx => ∃ (n4 n5 : Option Nat), s16 = .int .i64 1 ∧ Tt w wx w.heap.size W2.heap.size W3.heap.size p term margin a1 cap1 l k (ls1 ((atK 3 l k).N 0) term) n3 (hs2 ((atK 3 l a).N 1) ((atK 3 l k).N 1) term margin) n4 n5)
                case first => as_aux_lemma =>
                  go_region_with (first
                    | (go_at_call 21; (with_reducible refine Calls.mono (HN1.out _ ?_) ?_); (focus (repeat (first | exact Only.refl _ _ _ | exact hoc.out | refine Only.drew ?_ | refine Only.drewN _ ?_ | refine Only.alloc ?_ _))); rintro e W5 ⟨rfl, rfl⟩)
                    | (go_at_call 27; (with_reducible refine Calls.mono (HGD.out _ ?_) ?_); (focus (repeat (first | exact Only.refl _ _ _ | exact hoc.out | refine Only.drew ?_ | refine Only.drewN _ ?_ | refine Only.alloc ?_ _))); rintro e W6 ⟨n4, n5, rfl, hy, hoc2, hv2⟩; have HY := Lib.hid hy; have hk4 := Lib.hid (HXT.out.kept hoc2); obtain ⟨c0, c1, c2, c3, cf⟩ := hk4.out.hv.box; dsimp only [hs1] at c0 c1; have cf0 := cf 0; have cf1 := cf 1; have cf2 := cf 2; have cf3 := cf 3; clear hoc2 hv2 hy cf))
                  all_goals go_wp2_with fail
                  all_goals go_meet
                  all_goals
                    have h := hk4.out.setH (H' := hs2 ((atK 3 l a).N 1) ((atK 3 l k).N 1) term margin) HY.out.1 HY.out.2
                    rw [HLI.out.1, HLI.out.2] at h
                    unfold World.four at h
                    exact ⟨_, _, rfl, h⟩
                case rest =>
                  obtain ⟨n4, n5, rfl, ht5⟩ := hcut
                  have HT5 := Lib.hid ht5
                  clear ht5
                  go_wp2_with fail
                  go_meet
                  have hkg' := HKG.out
                  subst hkg'
                  exact ⟨_, _, _, _, _, 1, rfl, ⟨by rw [if_neg (by omega)], by unfold hSt; rw [if_neg (by omega), if_neg (by omega)], by rw [if_neg (by omega)]⟩, HT5.out⟩
            · have hkd : ((k : Int) == (g : Int)) = false := beq_eq_false_iff_ne.2 (by omega)
              go_wp2_with fail
              go_meet
              refine ⟨_, _, ms, n1, n2, fi, rfl, ⟨?_, ?_, ?_⟩, HT3.out⟩
              · unfold sSt
                by_cases hx : k < g
                · rw [if_pos (by omega), if_pos hx]
                · rw [if_neg (by omega), if_neg hx]
              · rw [HHH.out.1]
                unfold hSt
                by_cases hx : k < a
                · rw [if_pos hx, if_pos (by omega)]
                · rw [if_neg hx]
                  by_cases hy : k ≤ g
                  · rw [if_pos hy, if_neg (by omega), if_pos (by omega)]
                  · rw [if_neg hy, if_neg (by omega), if_neg hy, if_neg (by omega), if_neg (by omega)]
              · rw [HPH.out.2]
                by_cases hx : k < g
                · rw [if_pos (by omega), if_pos hx]
                · rw [if_neg (by omega), if_neg hx]
          case rest =>
            obtain ⟨S, H', n3, n4, n5, fi', rfl, hSS, ht3⟩ := hcut
            have HT5 := Lib.hid ht3
            have HSS := Lib.hid hSS
            have HNM := Lib.hid HHH.out.2
            clear ht3 hSS HT3 HHH HPH
            obtain ⟨mi, mb, hbel⟩ : ∃ (mi : Int) (mb : Bool), believe H'.has ((atK 3 l k).N 1) 9 = (mi, mb) := ⟨_, _, rfl⟩
            obtain ⟨S2, gn, gc, hgr⟩ : ∃ (S2 : LS) (gn gc : Int), grantL S ((atK 3 l k).N 0) term 9 2 = (S2, gn, gc) := ⟨_, _, _, rfl⟩
            have HBL := Lib.hid hbel
            have HGR := Lib.hid hgr
            have HLS : Hid (-9223372036854775808 ≤ S.epoch ∧ (lasting S.hs ((atK 3 l k).N 0)).length < 1000000) := Lib.hid (by
              rw [HSS.out.1]
              split
              · exact ⟨by decide, by simp [ls0, lasting]⟩
              · exact ⟨by simp [ls1], Nat.lt_of_le_of_lt (lasting_len _ _) (by simp [ls1])⟩)
            have HN1 := Lib.hid (fun V (hX : Out wc V) => now1_from hX HT5.out.clk)
            have HBB := Lib.hid (fun V (hX : Out wc V) => bel_from hX (m1 := n4) (li := H'.life) (co := H'.count) HT5.out.hv.has (WalkArith.wf_i64 (by decide)) HBL.out)
            obtain ⟨b0, b1, b2, b3, _⟩ := HT5.out.hv.box
            clear hbel hgr
            go_upto_region 31 with (fail)
            go_cut [26] (fun s26 wx => s26 = .bool mb ∧ Tt w wx w.heap.size W2.heap.size W3.heap.size p term margin a1 cap1 l k S n3 H' n4 n5)
            case first => as_aux_lemma =>
              go_region_with (first
                | (go_at_call 21; (with_reducible refine Calls.mono (HN1.out _ ?_) ?_); (focus (repeat (first | exact Only.refl _ _ _ | exact hoc.out | refine Only.drew ?_ | refine Only.drewN _ ?_ | refine Only.alloc ?_ _))); rintro e W5 ⟨rfl, rfl⟩)
                | (go_at_call 28; (with_reducible refine Calls.mono (HBB.out _ ?_) ?_); (focus (repeat (first | exact Only.refl _ _ _ | exact hoc.out | refine Only.drew ?_ | refine Only.drewN _ ?_ | refine Only.alloc ?_ _))); rintro e W6 ⟨rfl, hoc2, hv2⟩; have hoc := Lib.hid hoc2; clear hoc2 hv2))
              all_goals go_wp2_with fail
              all_goals go_meet
              all_goals exact ⟨rfl, HT5.out.kept hoc.out⟩
            case rest =>
              obtain ⟨rfl, ht6⟩ := hcut
              have HT6 := Lib.hid ht6
              clear ht6 b0 b1 b2 b3 HT5 HN1 HBB
              have HN0 := Lib.hid (fun V (hX : Out wc V) => now0_from hX HT6.out.clk)
              have HGA := Lib.hid (fun V (hX : Out wc V) => grantL_from hX HT6.out.sv.hs rfl rfl rfl rfl (WalkArith.wf_i64 (by decide)) HLS.out.1 HLS.out.2 HGR.out)
              have HZ : Hid (LVar ((wc.alloc (.cells #[.int .i64 0, .int .i64 0, .map none] 57)).drew) wc.heap.size ls0 none) := Lib.hid ((LVar.new (w := wc) (h := ls0) (m := none) rfl).kept (Only.drew (Only.refl _ _ _)))
              obtain ⟨b0, b1, b2, _⟩ := HT6.out.sv.box
              have q0 := HT6.out.p0
              have hne := World.new_ne wc _ b0
              have hne2 := World.new_ne wc _ q0
              go_upto_region 32 with (fail)
              go_cut [27, 28, 29] (fun s27 s28 s29 wx => ∃ (B9 : Nat) (n9 : Option Nat), s27 = .pointer (some ⟨B9, 0, none⟩) ∧ s28 = .int .i64 gn ∧ s29 = .int .i64 gc ∧ LVar wx B9 S2 n9 ∧ Tt w wx w.heap.size W2.heap.size W3.heap.size p term margin a1 cap1 l k S n3 H' n4 n5)
              case first => as_aux_lemma =>
                go_region_held3 (fun W => (W.cell? ⟨W3.heap.size, 0, none⟩ = some (.int .i64 S.epoch) ∧ W.cell? ⟨W3.heap.size, 1, none⟩ = some (.int .i64 S.quiet) ∧ W.cell? ⟨W3.heap.size, 2, none⟩ = some (.map n3)) ∧ W.cell? ⟨w.heap.size, 0, none⟩ = some (.int .i64 term)) (go_keep)
                  (first
                    | (go_at_call 21; (with_reducible refine Calls.mono (HN0.out _ ?_) ?_); (focus (repeat (first | exact Only.refl _ _ _ | exact hoc.out | refine Only.drew ?_ | refine Only.drewN _ ?_ | refine Only.alloc ?_ _))); rintro e W5 ⟨rfl, rfl⟩)
                    | (go_at_call 34; (with_reducible refine Calls.mono (HGA.out _ ?_) ?_); (focus (repeat (first | exact Only.refl _ _ _ | exact hoc.out | refine Only.drew ?_ | refine Only.drewN _ ?_ | refine Only.alloc ?_ _))); rintro e W6 ⟨n9, rfl, hy, hoc2, hv2⟩; (try (have hzz := HZ.out.kept hv2; obtain ⟨z0, z1, z2, zf⟩ := hzz.box; dsimp only [ls0] at z0 z1; have zf0 := zf 0; have zf1 := zf 1; have zf2 := zf 2; have HZZ := Lib.hid hzz; clear zf hzz)); clear hv2; have HY := Lib.hid hy; have hk4 := HT6.out.kept hoc2; obtain ⟨c0, c1, c2, _⟩ := hk4.sv.box; have c3 := hk4.p0; have hnw := World.new_ne W6 _ c0; have hnw2 := World.new_ne W6 _ c3; have hoc := Lib.hid hoc2; clear hoc2 hy hk4))
                all_goals go_wp2_with fail
                all_goals go_meet
                all_goals first
                  | exact ⟨_, _, rfl, rfl, rfl, LVar.new (h := S2) HY.out, HT6.out.kept (hoc.out.alloc _)⟩
                  | (have hF := HZZ.out.set (h' := S2) HY.out
                     have hO6 := hoc.out.fresh (three_only W6 wc.heap.size S2.epoch S2.quiet n9)
                     unfold World.three at hF hO6
                     exact ⟨_, _, rfl, rfl, rfl, hF, HT6.out.kept hO6⟩)
              case rest =>
                obtain ⟨B9, n9, rfl, rfl, rfl, hv9, ht9⟩ := hcut
                have HV9 := Lib.hid hv9
                have HT9 := Lib.hid ht9
                clear hv9 ht9 b0 b1 b2 hne hne2 q0 HT6 HN0 HGA HZ
                have HTK : Hid (∀ t : Int, Calls Try.prog 19 #[.pointer (some ⟨p, 0, none⟩), .int .i64 t] wc fun e w' => ∃ c : Int, e = .returned (.int .i64 c) ∧ Clk w' W2.heap.size (W2.heap.size + 4) p 3 ((atK 3 l k).tick 3 t) ∧ Only W2.heap.size (W2.heap.size + 4) wc w') := Lib.hid (fun t => (tick_any wc _ _ p 3 100 (atK 3 l k) HT9.out.clk HBD.out (by decide) t (by decide)).mono fun e w' h => ⟨_, h.1, h.2⟩)
                have HK1 : Hid (k + 1 ≤ l.length + 1) := Lib.hid (by omega)
                have hA0 := (HBD.out.1 0)
                obtain ⟨hA1, hA2⟩ := hA0
                by_cases hkg : k < g
                · as_aux_lemma =>
                  have hkg1 : decide (g ≤ k) = false := decide_eq_false (by omega)
                  have hkg2 : decide ((g : Int) ≤ (k : Int)) = false := decide_eq_false (by omega)
                  have hkg3 : decide (k < g) = true := decide_eq_true hkg
                  have HM : Hid (mb = false ∧ gc = 0) := Lib.hid (by
                    have e1 := HBL.out
                    have e2 := HGR.out
                    rw [HSS.out.1, if_pos hkg] at e2
                    rw [tt_grant _ term hA1 hA2 h1 h2 2 (by decide)] at e2
                    rw [HSS.out.2.1] at e1
                    have e3 : (hSt l a g term margin (k + 1)).has = [] := by
                      unfold hSt
                      split
                      · rfl
                      · rw [if_pos (by omega)]; rfl
                    rw [e3] at e1
                    simp only [believe, mget, List.find?, Option.map_none] at e1
                    simp only [Prod.mk.injEq] at e1 e2
                    exact ⟨e1.2.symm, e2.2.2.symm⟩)
                  obtain ⟨rfl, rfl⟩ := HM.out
                  clear HM hkg
                  by_cases hkt : k < l.length
                  · have hkt' : (k : Int) < (l.length : Int) := by omega
                    obtain ⟨bb, oo, rfl, hbb, hcell⟩ : ∃ b o, a1 = some ⟨b, o, none⟩ ∧ b < W2.heap.size ∧ ∀ i, i < l.length → wc.cell? ⟨b, o + i, none⟩ = some (.int .i64 (nth l i)) := by
                      rcases HT9.out.row.row with h0 | h0
                      · rw [h0] at hkt; simp at hkt
                      · exact h0
                    have hc9 := hcell k hkt
                    clear hcell
                    go_wp2_with (first
                      | (go_at_call 19; (with_reducible refine Calls.mono (HTK.out (nth l k)) ?_); rintro e W7 ⟨ec, rfl, hc7, ho7⟩; have HX := Lib.hid (tt_rel (HT9.out.tick ho7 hkt hc7) HSS.out HNM.out HK1.out rfl); clear hc7 ho7)
                      | fail)
                    go_roundg (l.length + 1 - (k + 1))
                    case measure => go_light; omega
                    case rel => exact HX.out
                  · have hkt' : ¬ (k : Int) < (l.length : Int) := by omega
                    have HX := Lib.hid (tt_rel (HT9.out.stay (by omega)) HSS.out HNM.out HK1.out rfl)
                    go_wp2_with fail
                    go_roundg (l.length + 1 - (k + 1))
                    case measure => go_light; omega
                    case rel => exact HX.out
                · as_aux_lemma =>
                  have hkg1 : decide (g ≤ k) = true := decide_eq_true (by omega)
                  have hkg2 : decide ((g : Int) ≤ (k : Int)) = true := decide_eq_true (by omega)
                  have hkg3 : decide (k < g) = false := decide_eq_false hkg
                  have hgk : (g : Int) ≤ (k : Int) := by omega
                  have HFI : Hid (fi' = 1) := Lib.hid (by rw [HSS.out.2.2, if_neg hkg])
                  have HSE : Hid (S = ls1 ((atK 3 l g).N 0) term) := Lib.hid (by rw [HSS.out.1, if_neg hkg])
                  have HHE : Hid (H' = hs2 ((atK 3 l a).N 1) ((atK 3 l g).N 1) term margin) := Lib.hid (by rw [HSS.out.2.1]; unfold hSt; rw [if_neg (by omega), if_neg (by omega)])
                  by_cases hbz : (atK 3 l k).N 0 < (atK 3 l g).N 0 + term
                  · have HM : Hid (gc = 15) := Lib.hid (by
                      have e2 := HGR.out
                      rw [HSE.out, tt_busy _ term _ hA1 hA2 h1 h2 hbz] at e2
                      simp only [Prod.mk.injEq] at e2
                      exact e2.2.2.symm)
                    obtain rfl := HM.out
                    clear HM hbz
                    cases mb
                    all_goals
                      by_cases hkt : k < l.length
                      · have hkt' : (k : Int) < (l.length : Int) := by omega
                        obtain ⟨bb, oo, rfl, hbb, hcell⟩ : ∃ b o, a1 = some ⟨b, o, none⟩ ∧ b < W2.heap.size ∧ ∀ i, i < l.length → wc.cell? ⟨b, o + i, none⟩ = some (.int .i64 (nth l i)) := by
                          rcases HT9.out.row.row with h0 | h0
                          · rw [h0] at hkt; simp at hkt
                          · exact h0
                        have hc9 := hcell k hkt
                        clear hcell
                        go_wp2_with (first
                          | (go_at_call 19; (with_reducible refine Calls.mono (HTK.out (nth l k)) ?_); rintro e W7 ⟨ec, rfl, hc7, ho7⟩; have HX := Lib.hid (tt_rel (HT9.out.tick ho7 hkt hc7) HSS.out HNM.out HK1.out rfl); clear hc7 ho7)
                          | fail)
                        go_roundg (l.length + 1 - (k + 1))
                        case measure => go_light; omega
                        case rel => exact HX.out
                      · have hkt' : ¬ (k : Int) < (l.length : Int) := by omega
                        have HX := Lib.hid (tt_rel (HT9.out.stay (by omega)) HSS.out HNM.out HK1.out rfl)
                        go_wp2_with fail
                        go_roundg (l.length + 1 - (k + 1))
                        case measure => go_light; omega
                        case rel => exact HX.out
                  · have HM : Hid (gc = 0 ∧ gn = 2 ∧ S2 = ⟨2, 0, [(9, (2, 2, (atK 3 l k).N 0 + term))]⟩) := Lib.hid (by
                      have e2 := HGR.out
                      rw [HSE.out, tt_next _ term _ hA1 hA2 h1 h2 (by omega)] at e2
                      simp only [Prod.mk.injEq] at e2
                      exact ⟨e2.2.2.symm, e2.2.1.symm, e2.1.symm⟩)
                    have HMB : Hid (mb = false) := Lib.hid (by
                      have e1 := HBL.out
                      rw [HHE.out] at e1
                      have e3 := tt_no l a g k term margin h5 (by omega) hkl (by have := HWM.out; omega) (by omega)
                      rw [e1] at e3
                      exact e3)
                    obtain ⟨rfl, rfl, hS2⟩ := HM.out
                    obtain rfl := HMB.out
                    obtain rfl := HFI.out
                    have HS2 := Lib.hid hS2
                    have HWH : Hid (whoL S2.hs ((atK 3 l k).N 0) 9 = some (2, 2, (atK 3 l k).N 0 + term)) := Lib.hid (by rw [hS2]; exact tt_who _ term h1)
                    have HN0 := Lib.hid (fun V (hX : Out wc V) => now0_from hX HT9.out.clk)
                    have HWF : Hid (∀ V, Out wc V → Calls Try.prog 41 #[.agg #[.int .i64 2, .int .i64 0, .map n9], .int .i64 ((atK 3 l k).N 0), .int .i64 9] V fun e w' => e = .returned (.tuple #[.agg #[.int .i64 2, .int .i64 2, .int .i64 ((atK 3 l k).N 0 + term)], .bool true]) ∧ Out wc w' ∧ Out V w') := Lib.hid (fun V hX => who_from hX (ep := 2) (qu := 0) HV9.out.hs (WalkArith.wf_i64 (by decide)) HWH.out)
                    obtain ⟨b0, b1, b2, _⟩ := HV9.out.box
                    rw [hS2] at b0 b1
                    dsimp only at b0 b1
                    clear hbz HM HMB hS2
                    have HZ : Hid (T3 ((wc.alloc (.cells #[.int .i64 0, .int .i64 0, .int .i64 0] 82)).drew) wc.heap.size 0 0 0) := Lib.hid ((T3.of (at_top wc (.cells #[.int .i64 0, .int .i64 0, .int .i64 0] 82) wc.heap.size rfl)).kept (Only.drew (Only.refl 0 0 _)) (by simp) (.inr (Nat.zero_le _)))
                    have HZL : Hid (wc.heap.size < ((wc.alloc (.cells #[.int .i64 0, .int .i64 0, .int .i64 0] 82)).drew).heap.size) := Lib.hid (by simp)
                    have hne := World.new_ne wc _ b0
                    go_wp2_with fail
                    go_cut [30, 31] (fun s30 s31 wx => ∃ (B10 : Nat) (zz : Int), s30 = .pointer (some ⟨B10, 0, none⟩) ∧ s31 = .bool true ∧ T3 wx B10 2 2 zz ∧ Only w.heap.size w.heap.size w wx)
                    case first => as_aux_lemma =>
                      go_region_held3 (fun W => W.cell? ⟨B9, 0, none⟩ = some (.int .i64 2) ∧ W.cell? ⟨B9, 1, none⟩ = some (.int .i64 0) ∧ W.cell? ⟨B9, 2, none⟩ = some (.map n9)) (go_keep)
                        (first
                          | (go_at_call 21; (with_reducible refine Calls.mono (HN0.out _ ?_) ?_); (focus (repeat (first | exact Only.refl _ _ _ | exact hoc.out | refine Only.drew ?_ | refine Only.drewN _ ?_ | refine Only.alloc ?_ _))); rintro e W5 ⟨rfl, rfl⟩)
                          | (go_at_call 41; (with_reducible refine Calls.mono (HWF.out _ ?_) ?_); (focus (repeat (first | exact Only.refl _ _ _ | exact hoc.out | refine Only.drew ?_ | refine Only.drewN _ ?_ | refine Only.alloc ?_ _))); rintro e W6 ⟨rfl, hoc2, hv2⟩; (try (have hzz := HZ.out.kept hv2 HZL.out (.inl HZL.out); have HZZ := Lib.hid hzz; obtain ⟨z0, z1, z2, zf⟩ := hzz; have zf0 := zf 0; have zf1 := zf 1; have zf2 := zf 2; clear zf)); clear hv2; have hk4 := (HV9.out.kept hoc2).box; rw [HS2.out] at hk4; obtain ⟨c0, c1, c2, _⟩ := hk4; dsimp only at c0 c1; have hnw := World.new_ne W6 _ c0; have hoc := Lib.hid hoc2; clear hoc2))
                      all_goals go_wp2_with fail
                      all_goals go_meet
                      all_goals first
                        | exact ⟨_, _, rfl, rfl, T3.of (at_top _ _ _ rfl), (HT9.out.only.then hoc.out HT9.out.only.size).alloc _⟩
                        | (have hF := HZZ.out.set (x' := 2) (y' := 2) (z' := (atK 3 l k).N 0 + term)
                           exact ⟨_, _, rfl, rfl, hF.1, HT9.out.only.then (hoc.out.fresh hF.2) HT9.out.only.size⟩)
                    case rest =>
                      obtain ⟨B10, zz, rfl, rfl, h10, ho10⟩ := hcut
                      have HO10 := Lib.hid ho10
                      clear b0 b1 b2 hne ho10
                      obtain ⟨c0, c1, c2, _⟩ := h10
                      go_wp2_with fail
                      go_ret
                      exact ⟨rfl, HO10.out⟩
    · have hkl' : ¬ (k : Int) ≤ (l.length : Int) := by omega
      go_wp2_with fail
      go_ret
      exact ⟨rfl, HT.out.only⟩
end Go.Proofs.Ytefllgpehhlkoaa
