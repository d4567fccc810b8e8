/-
  HolderPlays, its walk.
-/
import Derived.Test.YtefllgpehhlkoaaHPlaysK
namespace Go.Proofs.Ytefllgpehhlkoaa
open Go.RowKit Go.Maps
set_option linter.unusedVariables false

set_option maxRecDepth 100000 in
set_option maxHeartbeats 20000000 in
theorem hplays_any (w : World) (life count : Int) (a : Option Addr) (len cap : Nat) (z : Nat → Nat → Int) (hz : IsRecs w 8 a len cap z) :
    Calls Try.prog 12 #[.int .i64 life, .int .i64 count, .slice a len cap] w (TrueOnly w) := by
  have hO : Hid (Only w.heap.size w.heap.size w w) := Lib.hid (Only.refl _ _ _)
  have HZ := Lib.hid hz
  have hcap : cap ≤ 9223372036854775807 := hz.2.1
  have hlc : len ≤ cap := hz.1
  have hb0 := build0
  clear hz
  go_enter Try.func12, Try.ntmps12
  go_wp2_with (first
    | (go_at_call 25; refine (awake19 _).mono ?_; rintro e W1 ⟨rfl, ho1⟩; have HS0 := Lib.hid ((hp_start w life count).kept ho1); clear ho1)
    | fail)
  go_loopw [9, 10, 11] (fun uv nv iv W => HpRel w len uv nv iv W) (fun _ _ iv _ => len - (intOf iv).toNat)
  case atStart => exact ⟨0, life, count, [], [], [], [], none, none, _, _, [], [], rfl, Nat.zero_le _, Nat.zero_le _, HS0.out, ⟨fun i hi => by simp at hi, by simp, by simp, ⟨by simp, by simp⟩, Sim.nil, Sim.nil⟩⟩
  case round =>
    obtain ⟨i, L, C, ws, hs, xs, ys, m1, m2, v1, v2, ls, ns, rfl, hi30, hil, hlp, hlk⟩ := hrel
    obtain ⟨va1, vn1, vc1, rfl⟩ := own_slice hlp.o.ws
    obtain ⟨va2, vn2, vc2, rfl⟩ := own_slice hlp.o.hs
    obtain ⟨pa, pc, rfl, _⟩ := hlp.p.row
    obtain ⟨na, nc, rfl, _⟩ := hlp.n.row
    by_cases hlt : i < len ∧ i < 30
    · obtain ⟨hlt, h30⟩ := hlt
      have h30' : (i : Int) < 30 := by omega
      obtain ⟨b, o, rfl, hbb, hcell⟩ : ∃ b o, a = some ⟨b, o, none⟩ ∧ b < w.heap.size ∧ ∀ i, i < len → ∀ j, j < 8 → w.cell? ⟨b, o + (i * 8 + j), none⟩ = some (.int .i64 (z i j)) ∧ (Lit.int .i64 (z i j)).wf = true := by
        rcases HZ.out.2.2 with h0 | h0
        · omega
        · exact h0
      have hc : ∀ j, j < 8 → wr.cell? ⟨b, o + (i * 8 + j), none⟩ = some (.int .i64 (z i j)) := fun j hj => (hlp.only.cell (by exact hbb) (.inl (by exact hbb))).trans (hcell i hlt j hj).1
      have HK4 := Lib.hid (hcell i hlt 4 (by omega)).2
      have q0 : wr.cell? ⟨b, o + i * 8, none⟩ = some (.int .i64 (z i 0)) := hc 0 (by omega)
      have q1 : wr.cell? ⟨b, o + i * 8 + 1, none⟩ = some (.int .i64 (z i 1)) := hc 1 (by omega)
      have q2 : wr.cell? ⟨b, o + i * 8 + 2, none⟩ = some (.int .i64 (z i 2)) := hc 2 (by omega)
      have q3 : wr.cell? ⟨b, o + i * 8 + 3, none⟩ = some (.int .i64 (z i 3)) := hc 3 (by omega)
      have q4 : wr.cell? ⟨b, o + i * 8 + 4, none⟩ = some (.int .i64 (z i 4)) := hc 4 (by omega)
      have q5 : wr.cell? ⟨b, o + i * 8 + 5, none⟩ = some (.int .i64 (z i 5)) := hc 5 (by omega)
      have q6 : wr.cell? ⟨b, o + i * 8 + 6, none⟩ = some (.int .i64 (z i 6)) := hc 6 (by omega)
      have q7 : wr.cell? ⟨b, o + i * 8 + 7, none⟩ = some (.int .i64 (z i 7)) := hc 7 (by omega)
      clear hc hcell
      generalize z i = y at *
      have hwz := hlp.size
      have hnl : ns.length ≤ 1000 := by have := hlk.nls; omega
      have HA0 := Lib.hid ((ha_start hlp y).kept ((Only.refl _ _ _).alloc (.cells #[.int .i64 (y 4)] 3)))
      obtain ⟨ls2, hls2⟩ : ∃ l, l = ls ++ [y 4] := ⟨_, rfl⟩
      have HLS := Lib.hid hls2
      have HK : Hid (Hk (10 + 3 * i + 1) L C ws hs xs ys ls2 ns) := Lib.hid (by rw [hls2]; exact hlk.app HK4.out)
      have HLE : Hid (ls.length ≤ 1000) := Lib.hid (by have := hlk.pls; omega)
      clear hls2 hlp hlk
      go_upto_region 12 with (first
        | (at_builtin; refine wpList_append_int_at _ rfl (.tmp 46) (.tmp 49) rfl (w.heap.size + 2) _ ls (y 4) rfl HA0.out.main.p (wr.heap.size + 1) rfl (cell_newk _ _ _ (by simp)) (by have := HLE.out; omega) HA0.out.main.size ?_; intro u1 w5 hown1 hg1 hat1; rw [← HLS.out] at hown1; have HA1 := Lib.hid (HA0.out.appP hown1 hg1 hat1); obtain ⟨pa2, pc2, rfl, hsl⟩ := hown1.row; clear hown1 hg1 hat1 hsl; obtain ⟨a0, a1, a2, a3, a4, a5, a6, a7⟩ := HA1.out.act)
        | fail)
      go_cut [62] (fun s62 wx => ∃ bk : Bool, s62 = .bool bk ∧ (bk = true → 0 ≤ y 6 ∧ y 6 < ns.length) ∧ Ha w wx wr.heap.size y L C ws hs xs ys m1 m2 (.slice va1 vn1 vc1) (.slice va2 vn2 vc2) (.slice pa2 ls2.length pc2) (.slice na ns.length nc) ls2 ns)
      case first =>
        by_cases h1 : 0 ≤ y 6
        · by_cases h2 : y 6 < ns.length
          · go_wp2_with fail
            go_meet
            exact ⟨true, rfl, fun _ => ⟨h1, h2⟩, HA1.out⟩
          · go_wp2_with fail
            go_meet
            exact ⟨false, rfl, fun h => (by cases h), HA1.out⟩
        · go_wp2_with fail
          go_meet
          exact ⟨false, rfl, fun h => (by cases h), HA1.out⟩
      case rest =>
        obtain ⟨bk, rfl, hbk, hA2⟩ := hcut
        have HA2 := Lib.hid hA2
        have HBK := Lib.hid hbk
        clear hA2 hbk HA0 HA1 a0 a1 a2 a3 a4 a5 a6 a7 q0 q1 q2 q3 q4 q5 q6 q7
        obtain ⟨a0, a1, a2, a3, a4, a5, a6, a7⟩ := HA2.out.act
        go_upto_if 62 with (fail)
        go_cut [13] (fun s13 wx => ∃ num : Int, s13 = .int .i64 num ∧ Ha w wx wr.heap.size y L C ws hs xs ys m1 m2 (.slice va1 vn1 vc1) (.slice va2 vn2 vc2) (.slice pa2 ls2.length pc2) (.slice na ns.length nc) ls2 ns)
        case first =>
          cases bk with
          | true =>
            obtain ⟨h1, h2⟩ := HBK.out rfl
            obtain ⟨k, hk⟩ := Int.eq_ofNat_of_zero_le h1
            have hkn : k < ns.length := by omega
            obtain ⟨b2, o2, rfl, _, hn⟩ := (HA2.out.main.n.slH).row.addr (by omega)
            have hn2 := hn (ns.length - 1 - k) (by omega)
            have hidx : ((ns.length : Int) - 1 - y 6) = ((ns.length - 1 - k : Nat) : Int) := by omega
            have hidb : ns.length - 1 - k < ns.length := by omega
            have hw1 : IntKind.i64.wrap ((ns.length : Int) - 1) = (ns.length : Int) - 1 := IntWalk.i64_in _ (by omega)
            have hw2 : IntKind.i64.wrap ((ns.length : Int) - 1 - y 6) = ((ns.length - 1 - k : Nat) : Int) := by rw [IntWalk.i64_in _ (by omega)]; exact hidx
            clear hn hk hidx h1 h2
            generalize ns.length - 1 - k = kk at *
            go_wp2_with fail
            go_meet
            exact ⟨_, rfl, HA2.out⟩
          | false =>
            go_wp2_with fail
            go_meet
            exact ⟨_, rfl, HA2.out⟩
        case rest =>
          obtain ⟨num, rfl, hA3⟩ := hcut
          have HA3 := Lib.hid hA3
          clear hA3 HA2 a0 a1 a2 a3 a4 a5 a6 a7
          obtain ⟨a0, a1, a2, a3, a4, a5, a6, a7⟩ := HA3.out.act
          obtain ⟨b0, b1, b2, b3, _⟩ := HA3.out.main.s.box
          obtain ⟨x0, x1, x2, x3, _⟩ := HA3.out.main.x
          go_upto_region 14 with (fail)
          go_cut [14, 15] (fun s14 s15 wx => ∃ bt bu : Nat, s14 = .pointer (some ⟨bt, 0, none⟩) ∧ s15 = .pointer (some ⟨bu, 0, none⟩) ∧ Hm w wx bt bu wr.heap.size y L C ws hs xs ys m1 m2 (.slice va1 vn1 vc1) (.slice va2 vn2 vc2) (.slice pa2 ls2.length pc2) (.slice na ns.length nc) ls2 ns L C ws hs m1 m2 L C xs ys (.slice va1 vn1 vc1) (.slice va2 vn2 vc2))
          case first =>
            dsimp only at b0 b1 b2 b3
            go_region_held3 (fun W => W.cell? ⟨w.heap.size, 0, none⟩ = some (.int .i64 L) ∧ W.cell? ⟨w.heap.size, 1, none⟩ = some (.int .i64 C) ∧ W.cell? ⟨w.heap.size, 2, none⟩ = some (.map m1) ∧ W.cell? ⟨w.heap.size, 3, none⟩ = some (.map m2) ∧ W.cell? ⟨w.heap.size + 1, 0, none⟩ = some (.int .i64 L) ∧ W.cell? ⟨w.heap.size + 1, 1, none⟩ = some (.int .i64 C) ∧ W.cell? ⟨w.heap.size + 1, 2, none⟩ = some (.slice va1 vn1 vc1) ∧ W.cell? ⟨w.heap.size + 1, 3, none⟩ = some (.slice va2 vn2 vc2)) (go_keep) (fail)
            all_goals go_wp2_with fail
            all_goals go_meet
            all_goals first
              | exact ⟨_, _, rfl, rfl, hm_copy HA3.out⟩
              | exact ⟨_, _, rfl, rfl, hm_copy2 HA3.out⟩
          case rest =>
            obtain ⟨bt, bu, rfl, rfl, hM⟩ := hcut
            have HM := Lib.hid hM
            clear hM HA3 a0 a1 a2 a3 a4 a5 a6 a7 b0 b1 b2 b3 x0 x1 x2 x3
            obtain ⟨⟨⟨hlo1, hlo2⟩, hbne⟩, hlu⟩ := And.intro (And.intro HM.out.lo HM.out.ne) HM.out.lu
            have hn1 : ¬ (bt = bu) := hbne
            have hn2 : ¬ (bu = bt) := fun e => hbne e.symm
            have hn3 : ¬ (bt = w.heap.size) := by omega
            have hn4 : ¬ (w.heap.size = bt) := by omega
            have hn5 : ¬ (bu = w.heap.size) := by omega
            have hn6 : ¬ (w.heap.size = bu) := by omega
            have hn7 : ¬ (bt = w.heap.size + 1) := by omega
            have hn8 : ¬ (w.heap.size + 1 = bt) := by omega
            have hn9 : ¬ (bu = w.heap.size + 1) := by omega
            have hn10 : ¬ (w.heap.size + 1 = bu) := by omega
            clear hbne hlo1 hlo2
            obtain ⟨b0, b1, b2, b3, bf⟩ := HM.out.main.main.s.box; obtain ⟨x0, x1, x2, x3, xf⟩ := HM.out.main.main.x; obtain ⟨a0, a1, a2, a3, a4, a5, a6, a7⟩ := HM.out.main.act; obtain ⟨t0, t1, t2, t3, tf⟩ := HM.out.t.box; obtain ⟨e0, e1, e2, e3, ef⟩ := HM.out.y
            dsimp only at b0 b1 b2 b3 t0 t1 t2 t3
            clear bf xf tf ef
            go_upto_block 2 with (fail)
            go_cut [10, 16, 17] (fun s10 s16 s17 wx => ∃ (cd TL TC : Int) (Tw Th Xw Xh : Pairs) (n1 n2 : Option Nat) (ux1 : Option Addr) (un1 uc1 : Nat) (ux2 : Option Addr) (un2 uc2 : Nat) (na2 : Option Addr) (nc2 : Nat) (ns2 : List Int), s10 = .slice na2 ns2.length nc2 ∧ s16 = .int .i64 cd ∧ s17 = .int .i64 cd ∧ Hm w wx bt bu wr.heap.size y L C ws hs xs ys m1 m2 (.slice va1 vn1 vc1) (.slice va2 vn2 vc2) (.slice pa2 ls2.length pc2) (.slice na2 ns2.length nc2) ls2 ns2 TL TC Tw Th n1 n2 TL TC Xw Xh (.slice ux1 un1 uc1) (.slice ux2 un2 uc2) ∧ Hk (10 + 3 * i + 1 + 1) TL TC Tw Th Xw Xh ls2 ns2)
            case first =>
              by_cases hk1 : y 0 = 1
              · exact sw_1 _ _ _ _ _ _ _ _ _ _ _ _ _ _ _ _ _ _ _ _ _ _ _ _ _ _ _ _ _ _ _ _ _ _ _ _ _ _ _ _ _ _ _ _ _ _ _ _ _ _ _ _ _ _ _ _ _ _ _ _ _ _ _ _ _ _ _ _ _ _ _ _ _ _ _ _ _ _ _ _ _ _ _ _ _ _ _ _ _ _ _ _ _ _ _ _ _ _ _ _ _ _ _ _ _ _ _ _ _ _ _ _ _ _ _ _ _ _ _ _ _ _ _ _ _ _ _ _ _ _ _ _ _ _ _ _ _ _ _ _ _ _ _ _ _ _ _ _ _ _ _ _ _ _ _ _ _ _ _ _ _ _ _ _ _ _ _ _ _ _ _ _ _ _ _ _ _ _ _ _ _ _ _ _ _ _ _ _ _ _ _ _ _ _ _ _ _ _ _ _ _ _ _ _ _ _ _ _ _ _ _ _ _ h30 hnl hwz HK4 HK HM hk1 _ _ _ (by assumption) (by assumption)
              by_cases hk2 : y 0 = 2
              · exact sw_2 _ _ _ _ _ _ _ _ _ _ _ _ _ _ _ _ _ _ _ _ _ _ _ _ _ _ _ _ _ _ _ _ _ _ _ _ _ _ _ _ _ _ _ _ _ _ _ _ _ _ _ _ _ _ _ _ _ _ _ _ _ _ _ _ _ _ _ _ _ _ _ _ _ _ _ _ _ _ _ _ _ _ _ _ _ _ _ _ _ _ _ _ _ _ _ _ _ _ _ _ _ _ _ _ _ _ _ _ _ _ _ _ _ _ _ _ _ _ _ _ _ _ _ _ _ _ _ _ _ _ _ _ _ _ _ _ _ _ _ _ _ _ _ _ _ _ _ _ _ _ _ _ _ _ _ _ _ _ _ _ _ _ _ _ _ _ _ _ _ _ _ _ _ _ _ _ _ _ _ _ _ _ _ _ _ _ _ _ _ _ _ _ _ _ _ _ _ _ _ _ _ _ _ _ _ _ _ _ _ _ _ _ _ h30 hnl hwz HK4 HK HM hk1 hk2 _ _ _ (by assumption) (by assumption)
              by_cases hk3 : y 0 = 3
              · exact sw_3 _ _ _ _ _ _ _ _ _ _ _ _ _ _ _ _ _ _ _ _ _ _ _ _ _ _ _ _ _ _ _ _ _ _ _ _ _ _ _ _ _ _ _ _ _ _ _ _ _ _ _ _ _ _ _ _ _ _ _ _ _ _ _ _ _ _ _ _ _ _ _ _ _ _ _ _ _ _ _ _ _ _ _ _ _ _ _ _ _ _ _ _ _ _ _ _ _ _ _ _ _ _ _ _ _ _ _ _ _ _ _ _ _ _ _ _ _ _ _ _ _ _ _ _ _ _ _ _ _ _ _ _ _ _ _ _ _ _ _ _ _ _ _ _ _ _ _ _ _ _ _ _ _ _ _ _ _ _ _ _ _ _ _ _ _ _ _ _ _ _ _ _ _ _ _ _ _ _ _ _ _ _ _ _ _ _ _ _ _ _ _ _ _ _ _ _ _ _ _ _ _ _ _ _ _ _ _ _ _ _ _ _ _ h30 hnl hwz HK4 HK HM hk1 hk2 hk3 _ _ _ (by assumption) (by assumption)
              by_cases hk4 : y 0 = 4
              · exact sw_4 _ _ _ _ _ _ _ _ _ _ _ _ _ _ _ _ _ _ _ _ _ _ _ _ _ _ _ _ _ _ _ _ _ _ _ _ _ _ _ _ _ _ _ _ _ _ _ _ _ _ _ _ _ _ _ _ _ _ _ _ _ _ _ _ _ _ _ _ _ _ _ _ _ _ _ _ _ _ _ _ _ _ _ _ _ _ _ _ _ _ _ _ _ _ _ _ _ _ _ _ _ _ _ _ _ _ _ _ _ _ _ _ _ _ _ _ _ _ _ _ _ _ _ _ _ _ _ _ _ _ _ _ _ _ _ _ _ _ _ _ _ _ _ _ _ _ _ _ _ _ _ _ _ _ _ _ _ _ _ _ _ _ _ _ _ _ _ _ _ _ _ _ _ _ _ _ _ _ _ _ _ _ _ _ _ _ _ _ _ _ _ _ _ _ _ _ _ _ _ _ _ _ _ _ _ _ _ _ _ _ _ _ _ h30 hnl hwz HK4 HK HM hk1 hk2 hk3 hk4 _ _ _ (by assumption) (by assumption)
              by_cases hk5 : y 0 = 5
              · exact sw_5 _ _ _ _ _ _ _ _ _ _ _ _ _ _ _ _ _ _ _ _ _ _ _ _ _ _ _ _ _ _ _ _ _ _ _ _ _ _ _ _ _ _ _ _ _ _ _ _ _ _ _ _ _ _ _ _ _ _ _ _ _ _ _ _ _ _ _ _ _ _ _ _ _ _ _ _ _ _ _ _ _ _ _ _ _ _ _ _ _ _ _ _ _ _ _ _ _ _ _ _ _ _ _ _ _ _ _ _ _ _ _ _ _ _ _ _ _ _ _ _ _ _ _ _ _ _ _ _ _ _ _ _ _ _ _ _ _ _ _ _ _ _ _ _ _ _ _ _ _ _ _ _ _ _ _ _ _ _ _ _ _ _ _ _ _ _ _ _ _ _ _ _ _ _ _ _ _ _ _ _ _ _ _ _ _ _ _ _ _ _ _ _ _ _ _ _ _ _ _ _ _ _ _ _ _ _ _ _ _ _ _ _ _ h30 hnl hwz HK4 HK HM hk1 hk2 hk3 hk4 hk5 _ _ _ (by assumption) (by assumption)
              exact sw_0 _ _ _ _ _ _ _ _ _ _ _ _ _ _ _ _ _ _ _ _ _ _ _ _ _ _ _ _ _ _ _ _ _ _ _ _ _ _ _ _ _ _ _ _ _ _ _ _ _ _ _ _ _ _ _ _ _ _ _ _ _ _ _ _ _ _ _ _ _ _ _ _ _ _ _ _ _ _ _ _ _ _ _ _ _ _ _ _ _ _ _ _ _ _ _ _ _ _ _ _ _ _ _ _ _ _ _ _ _ _ _ _ _ _ _ _ _ _ _ _ _ _ _ _ _ _ _ _ _ _ _ _ _ _ _ _ _ _ _ _ _ _ _ _ _ _ _ _ _ _ _ _ _ _ _ _ _ _ _ _ _ _ _ _ _ _ _ _ _ _ _ _ _ _ _ _ _ _ _ _ _ _ _ _ _ _ _ _ _ _ _ _ _ _ _ _ _ _ _ _ _ _ _ _ _ _ _ _ _ _ _ _ _ h30 hnl hwz HK4 HK HM hk1 hk2 hk3 hk4 hk5 _ _ _ (by assumption) (by assumption)
            case rest =>
              obtain ⟨cd, TL, TC, Tw, Th, Xw, Xh, n1, n2, ux1, un1, uc1, ux2, un2, uc2, na2, nc2, ns2, rfl, rfl, rfl, hM4, hK2⟩ := hcut
              have M4 := Lib.hid hM4
              have HK2 := Lib.hid hK2
              clear hM4 hK2 b0 b1 b2 b3 x0 x1 x2 x3 a0 a1 a2 a3 a4 a5 a6 a7 t0 t1 t2 t3 e0 e1 e2 e3
              obtain ⟨b0, b1, b2, b3, bf⟩ := M4.out.main.main.s.box; obtain ⟨x0, x1, x2, x3, xf⟩ := M4.out.main.main.x; obtain ⟨a0, a1, a2, a3, a4, a5, a6, a7⟩ := M4.out.main.act; obtain ⟨t0, t1, t2, t3, tf⟩ := M4.out.t.box; obtain ⟨e0, e1, e2, e3, ef⟩ := M4.out.y; dsimp only at b0 b1 b2 b3 t0 t1 t2 t3; clear bf xf tf ef
              go_wp2_with (first
                | (go_at_call 49; have HR := alikeH_any _ L C (y 1) m1 m2 _ _ ws hs xs ys M4.out.main.main.s.wants M4.out.main.main.s.has M4.out.main.main.o.ws.reads M4.out.main.main.o.hs.reads HK.out.simW HK.out.simH pa2 pc2 ls2 (M4.out.main.main.p.slH) (by have := HK.out.pls; omega) HK.out.wf; (with_reducible refine HR.mono ?_); clear HR; rintro e W20 ⟨rfl, ho20⟩; have Q1 := Lib.hid (M4.out.kept ho20); clear ho20; clear b0 b1 b2 b3 x0 x1 x2 x3 t0 t1 t2 t3 e0 e1 e2 e3 a0 a1 a2 a3 a4 a5 a6 a7; obtain ⟨b0, b1, b2, b3, bf⟩ := Q1.out.main.main.s.box; obtain ⟨x0, x1, x2, x3, xf⟩ := Q1.out.main.main.x; obtain ⟨a0, a1, a2, a3, a4, a5, a6, a7⟩ := Q1.out.main.act; obtain ⟨t0, t1, t2, t3, tf⟩ := Q1.out.t.box; obtain ⟨e0, e1, e2, e3, ef⟩ := Q1.out.y; dsimp only at b0 b1 b2 b3 t0 t1 t2 t3; clear bf xf tf ef)
                | (go_at_call 49; have HR := alikeH_any _ TL TC (y 1) n1 n2 _ _ Tw Th Xw Xh Q1.out.t.wants Q1.out.t.has Q1.out.yo.ws.reads Q1.out.yo.hs.reads HK2.out.simW HK2.out.simH pa2 pc2 ls2 (Q1.out.main.main.p.slH) (by have := HK.out.pls; omega) HK.out.wf; (with_reducible refine HR.mono ?_); clear HR; rintro e W21 ⟨rfl, ho21⟩; have Q2 := Lib.hid (Q1.out.kept ho21); clear ho21; clear b0 b1 b2 b3 x0 x1 x2 x3 t0 t1 t2 t3 e0 e1 e2 e3 a0 a1 a2 a3 a4 a5 a6 a7; obtain ⟨b0, b1, b2, b3, bf⟩ := Q2.out.main.main.s.box; have bf0 := bf 0; have bf1 := bf 1; have bf2 := bf 2; have bf3 := bf 3; obtain ⟨x0, x1, x2, x3, xf⟩ := Q2.out.main.main.x; have xf0 := xf 0; have xf1 := xf 1; have xf2 := xf 2; have xf3 := xf 3; obtain ⟨a0, a1, a2, a3, a4, a5, a6, a7⟩ := Q2.out.main.act; obtain ⟨t0, t1, t2, t3, tf⟩ := Q2.out.t.box; obtain ⟨e0, e1, e2, e3, ef⟩ := Q2.out.y; dsimp only at b0 b1 b2 b3 t0 t1 t2 t3; clear bf xf tf ef; have Q3 := Lib.hid (Q2.out.main.main.set (TL := TL) (TC := TC) Q2.out.t.wants Q2.out.t.has Q2.out.yo); unfold World.rset World.four at Q3)
                | fail)
              go_roundw
              case rel => exact ⟨i + 1, TL, TC, Tw, Th, Xw, Xh, n1, n2, _, _, ls2, ns2, by go_num, by omega, by omega, Q3.out, HK2.out.to (by omega) (by have := HK2.out.nls; omega) (HK2.out.len.mono (by omega)) HK2.out.simW HK2.out.simH⟩
              case measure => simp [intOf]; omega
    · by_cases hl : i < len
      · have hi : i = 30 := by omega
        have hd1 : decide ((i : Int) < 30) = false := decide_eq_false (by omega)
        have HLP := Lib.hid hlp
        clear hi hlt hlp hlk
        go_wp2_with fail
        go_ret
        exact ⟨rfl, HLP.out.only⟩
      · have HLP := Lib.hid hlp
        clear hlt hlp hlk
        go_wp2_with fail
        go_ret
        exact ⟨rfl, HLP.out.only⟩
end Go.Proofs.Ytefllgpehhlkoaa
