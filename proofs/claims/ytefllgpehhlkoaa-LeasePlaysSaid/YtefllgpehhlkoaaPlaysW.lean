/-
  LeasePlays, its walk.
-/
import Derived.Test.YtefllgpehhlkoaaPlaysA
namespace Go.Proofs.Ytefllgpehhlkoaa
open Go.RowKit Go.Maps
set_option linter.unusedVariables false

/-- an act's cells -/
structure Act6 (w : World) (b : Nat) (k n t p h e : Int) : Prop where
  c0 : w.cell? ⟨b, 0, none⟩ = some (.int .i64 k)
  c1 : w.cell? ⟨b, 1, none⟩ = some (.int .i64 n)
  c2 : w.cell? ⟨b, 2, none⟩ = some (.int .i64 t)
  c3 : w.cell? ⟨b, 3, none⟩ = some (.int .i64 p)
  c4 : w.cell? ⟨b, 4, none⟩ = some (.int .i64 h)
  c5 : w.cell? ⟨b, 5, none⟩ = some (.int .i64 e)
theorem Act6.of {w : World} {b : Nat} {k n t p h e : Int} {ty : TypeId} (hb : w.heap[b]? = some (.cells #[.int .i64 k, .int .i64 n, .int .i64 t, .int .i64 p, .int .i64 h, .int .i64 e] ty)) : Act6 w b k n t p h e := by
  constructor <;> simp [World.cell?, hb]
/-- what a round reads -/
structure Rp (w W : World) (B A : Nat) (S : LS) (m : Option Nat) (v : Value) (ls : List Int) (u : Value) (k n t p h e : Int) : Prop where
  lp : Lp w W B S m v ls u
  blk : W.heap[A]? = some (.cells #[.int .i64 k, .int .i64 n, .int .i64 t, .int .i64 p, .int .i64 h, .int .i64 e] 73)
  lA : B + 2 ≤ A
section
variable {w W W' : World} {B A : Nat} {S S' : LS} {m m' : Option Nat} {v v' : Value} {ls : List Int} {u : Value} {k n t p h e : Int}
theorem Rp.act (r : Rp w W B A S m v ls u k n t p h e) : Act6 W A k n t p h e := Act6.of r.blk
theorem Rp.la (r : Rp w W B A S m v ls u k n t p h e) : A < W.heap.size := (Array.getElem?_eq_some_iff.1 r.blk).1
theorem Rp.kept (r : Rp w W B A S m v ls u k n t p h e) (o : Only W.heap.size W.heap.size W W') : Rp w W' B A S m v ls u k n t p h e :=
  ⟨r.lp.kept o, by rw [o.block A r.la (.inl r.la)]; exact r.blk, r.lA⟩
theorem rp_start (r : Lp w W B S m v ls u) : Rp w (W.alloc (.cells #[.int .i64 k, .int .i64 n, .int .i64 t, .int .i64 p, .int .i64 h, .int .i64 e] 73)) B W.heap.size S m v ls u k n t p h e :=
  ⟨r.kept ((Only.refl _ _ W).alloc _), top_at _ _ _ rfl, r.size⟩
theorem Own.neAct {w : World} {b1 A : Nat} {u : Value} {ls : List Int} {cs : Array Value} (h : Own w b1 u ls) (k : w.heap[A]? = some (.cells cs 73)) (hu : u.ownBlock = some A) : False := by
  obtain ⟨_, h2 | ⟨g1, _, cur1, e1, _, hh1, _⟩⟩ := h
  · rw [h2.1] at hu; cases hu
  · rw [e1] at hu
    cases hu
    rw [hh1] at k
    injection k with k
    injection k with _ ht
    exact absurd ht (by decide)
theorem Rp.app (r : Rp w W B A S m v ls u k n t p h e) {ys : List Int} {u' : Value} (h1 : Own W' (B + 2) u' ys) (g : W.grownBy W' u.ownBlock) : Rp w W' B A S m v ys u' k n t p h e :=
  ⟨r.lp.app h1 g, by rw [g.block A r.la (fun e => r.lp.p.neAct r.blk e.symm)]; exact r.blk, r.lA⟩
theorem Rp.set (r : Rp w W B A S m v ls u k n t p h e) (hm : MapIs tripE W m' S'.hs) (hv : OwnS hold4 W w.heap.size v' S'.hs) (hvB : ∀ g, v'.ownBlock = some g → g ≠ B ∧ g ≠ B + 1) :
    Rp w (World.xthree (World.three W B S'.epoch S'.quiet m') (B + 1) S'.epoch S'.quiet v') B A S' m' v' ls u k n t p h e := by
  have o1 := three_only W B S'.epoch S'.quiet m'
  have o2 := xthree_only (World.three W B S'.epoch S'.quiet m') (B + 1) S'.epoch S'.quiet v'
  have hl := r.la
  have hA := r.lA
  have s1 := o1.size
  exact ⟨r.lp.set hm hv hvB, by rw [o2.block A (by omega) (.inr (by omega)), o1.block A hl (.inr (by omega))]; exact r.blk, r.lA⟩
theorem Rp.set2 {X : World} (r : Rp w W B A S m v ls u k n t p h e) (hm : MapIs tripE W m' S'.hs) (o : Only (World.three W B S'.epoch S'.quiet m').heap.size (World.three W B S'.epoch S'.quiet m').heap.size (World.three W B S'.epoch S'.quiet m') X) (hv : OwnS hold4 X w.heap.size v' S'.hs) (hvB : ∀ g, v'.ownBlock = some g → g ≠ B ∧ g ≠ B + 1) :
    Rp w (World.xthree X (B + 1) S'.epoch S'.quiet v') B A S' m' v' ls u k n t p h e := by
  have o1 := three_only W B S'.epoch S'.quiet m'
  have o2 := xthree_only X (B + 1) S'.epoch S'.quiet v'
  have hl := r.la
  have hA := r.lA
  have s1 := o1.size
  have s2 := o.size
  exact ⟨r.lp.set2 hm o hv hvB, by rw [o2.block A (by omega) (.inr (by omega)), o.block A (by omega) (.inl (by omega)), o1.block A hl (.inr (by omega))]; exact r.blk, r.lA⟩
theorem Rp.actrest {X : World} {e' q : Int} (r : Rp w W B A S m v ls u k n t p h e) (o : Only (World.three W B e' q m').heap.size (World.three W B e' q m').heap.size (World.three W B e' q m') X) : Act6 X A k n t p h e := by
  have o1 := three_only W B e' q m'
  have hl := r.la
  have hA := r.lA
  have s1 := o1.size
  exact Act6.of (by rw [o.block A (by omega) (.inl (by omega)), o1.block A hl (.inr (by omega))]; exact r.blk)
theorem Rp.vB {X : World} (r : Rp w W B A S m v ls u k n t p h e) {l : Trips} (hv : v' = v ∨ OwnS hold4 X W.heap.size v' l) : ∀ g, v'.ownBlock = some g → g ≠ B ∧ g ≠ B + 1 := by
  rcases hv with rfl | hv
  · exact r.lp.vB
  · intro g hg
    have := (World.ownsRow.lt hv g hg).1
    have := r.lp.size
    omega
end

set_option maxRecDepth 100000 in
set_option maxHeartbeats 20000000 in
theorem plays_any (w : World) (epoch quiet : Int) (a1 : Option Addr) (len1 cap1 : Nat) (z1 : Nat → Nat → Int) (hz1 : IsRecs w 4 a1 len1 cap1 z1) (a : Option Addr) (len cap : Nat) (z : Nat → Nat → Int) (hz : IsRecs w 6 a len cap z) (hep : -9223372036854775808 ≤ epoch) :
    Calls Try.prog 10 #[.int .i64 epoch, .int .i64 quiet, .slice a1 len1 cap1, .slice a len cap] w (TrueOnly w) := by
  have hO : Hid (Only w.heap.size w.heap.size w w) := Lib.hid (Only.refl _ _ _)
  have HZ := Lib.hid hz
  have HZ1 := Lib.hid hz1
  have HEP := Lib.hid hep
  have hcap : cap ≤ 9223372036854775807 := hz.2.1
  have hlc : len ≤ cap := hz.1
  have hb0 := build0
  clear hz hz1 hep
  go_enter Try.func10, Try.ntmps10
  go_wp2_with (first
    | (go_at_call 31; refine (begin_any _ epoch quiet a1 len1 cap1 z1 HZ1.out).mono ?_; rintro e W1 ⟨m, es, v, rfl, hm, ho, hl, hk, hu, _, hO1⟩; obtain ⟨va, vn, vc, rfl⟩ := own_val ho; have HS0 := Lib.hid (lp_start (epoch := epoch) (quiet := quiet) hm ho hO1); have HL0 := Lib.hid (lk_start (quiet := quiet) HEP.out hl hu hk); have hll := hl; have HV := Lib.hid ho.reads; have hsz := hO1.size; clear hm ho hk hu hO1 hl; unfold lval xval)
    | fail)
  obtain ⟨va', cap', hve, hl1, hl2, h3⟩ := HV.out
  simp at hve
  obtain ⟨rfl, rfl, rfl⟩ := hve
  have H3 := Lib.hid h3
  clear h3
  go_loopw [11, 37] (fun uv jv W => PlRel1 w W1.heap.size ⟨epoch, quiet, es⟩ (some m) (.slice va es.length vc) uv jv W) (fun _ jv _ => es.length - (intOf jv).toNat)
  case atStart => exact ⟨0, rfl, Nat.zero_le _, HS0.out⟩
  case round =>
    obtain ⟨j, rfl, hj', hlp⟩ := hrel
    have hj : j ≤ es.length := hj'
    clear hj'
    obtain ⟨ua, uc, rfl, _⟩ := hlp.p.val
    have HP := Lib.hid hlp
    have hlen := firstsOf_len hj
    have hwz := hlp.size
    clear hlp
    by_cases hjl : j < es.length
    · obtain ⟨b, rfl, hb, hc⟩ : ∃ b, va = some ⟨b, 0, none⟩ ∧ b < W1.heap.size ∧ ∀ i x, es[i]? = some x → ∀ k, k < 4 → W1.cell? ⟨b, i * 4 + k, none⟩ = some (.int .i64 ((hold4.enc x).getD k 0)) := by
        rcases H3.out with h0 | h0
        · rw [h0] at hjl; simp at hjl
        · exact h0
      have hg : es[j]? = some es[j] := List.getElem?_eq_getElem hjl
      obtain ⟨g, hge, _, hgl, hgc⟩ := HP.out.o.addr hg
      cases hge
      have HF : Hid (firstsOf es (j + 1) = firstsOf es j ++ [es[j].1]) := Lib.hid (firstsOf_succ hjl)
      generalize es[j] = y at hgc HF hg
      obtain ⟨y0, y1, y2, y3⟩ := y
      have p0 : wr.cell? ⟨b, j * 4, none⟩ = some (.int .i64 y0) := hgc 0 (by decide)
      have p1 : wr.cell? ⟨b, j * 4 + 1, none⟩ = some (.int .i64 y1) := hgc 1 (by decide)
      have p2 : wr.cell? ⟨b, j * 4 + 2, none⟩ = some (.int .i64 y2) := hgc 2 (by decide)
      have p3 : wr.cell? ⟨b, j * 4 + 3, none⟩ = some (.int .i64 y3) := hgc 3 (by decide)
      have HA := Lib.hid (HP.out.kept (((Only.refl _ _ wr).alloc (.cells #[.int .i64 y0, .int .i64 y1, .int .i64 y2, .int .i64 y3] 71)).alloc (.cells #[.int .i64 y0] 3)))
      have HLE : Hid ((firstsOf es j).length ≤ 1000) := Lib.hid (by rw [hlen]; omega)
      clear hc hg hgc
      clear hlen
      go_wp2_with (first
        | (at_builtin; refine wpList_append_ints _ rfl _ _ rfl (W1.heap.size + 2) _ (firstsOf es j) [y0] rfl HA.out.p _ 1 _ rfl (sl_newk _ y0 _ (by simp)) (by have := HLE.out; simp; omega) HA.out.size ?_; intro u' w5 hown' hg'; have HQ := Lib.hid (HA.out.app hown' hg'); obtain ⟨ua', uc', rfl, _⟩ := hown'.val; clear hown' hg')
        | fail)
      go_roundw
      case rel => exact ⟨j + 1, by go_num, hjl, by have hq := HQ.out; rw [List.length_append] at hq; rw [HF.out]; exact hq⟩
      case measure => simp [intOf]; omega
    · obtain rfl : j = es.length := by omega
      have HX := Lib.hid (HP.out)
      clear hlen HP
      go_wp2_with (first
        | (go_at_call 32; refine (awake18 _).mono ?_; rintro e W2 ⟨rfl, ho2⟩; have HX2 := Lib.hid (HX.out.kept ho2); clear ho2)
        | fail)
      go_loopw [11, 14] (fun uv iv W => PlRel2 w W1.heap.size len uv iv W) (fun _ iv _ => len - (intOf iv).toNat)
      case atStart => exact ⟨0, _, _, _, _, rfl, Nat.zero_le _, Nat.zero_le _, HX2.out, HL0.out⟩
      case round =>
        obtain ⟨i, S, m1, v, ls, rfl, hi30, hil, hlp, hlk⟩ := hrel
        obtain ⟨va1, vn1, vc1, rfl⟩ := own_val hlp.o
        obtain ⟨pa, pc, rfl, _⟩ := hlp.p.val
        by_cases hlt : i < len ∧ i < 30
        · obtain ⟨hlt, h30⟩ := hlt
          have h30' : (i : Int) < 30 := by omega
          obtain ⟨b, o, rfl, hbb, hcell⟩ : ∃ b o, a = some ⟨b, o, none⟩ ∧ b < w.heap.size ∧ ∀ i, i < len → ∀ j, j < 6 → w.cell? ⟨b, o + (i * 6 + j), none⟩ = some (.int .i64 (z i j)) ∧ (Lit.int .i64 (z i j)).wf = true := by
            rcases HZ.out.2.2 with h0 | h0
            · omega
            · exact h0
          have hc : ∀ j, j < 6 → wr.cell? ⟨b, o + (i * 6 + j), none⟩ = some (.int .i64 (z i j)) := fun j hj => (hlp.only.cell (by exact hbb) (.inl (by exact hbb))).trans (hcell i hlt j hj).1
          have HK := Lib.hid (hcell i hlt 3 (by omega)).2
          have q0 : wr.cell? ⟨b, o + i * 6, none⟩ = some (.int .i64 (z i 0)) := hc 0 (by omega)
          have q1 : wr.cell? ⟨b, o + i * 6 + 1, none⟩ = some (.int .i64 (z i 1)) := hc 1 (by omega)
          have q2 : wr.cell? ⟨b, o + i * 6 + 2, none⟩ = some (.int .i64 (z i 2)) := hc 2 (by omega)
          have q3 : wr.cell? ⟨b, o + i * 6 + 3, none⟩ = some (.int .i64 (z i 3)) := hc 3 (by omega)
          have q4 : wr.cell? ⟨b, o + i * 6 + 4, none⟩ = some (.int .i64 (z i 4)) := hc 4 (by omega)
          have q5 : wr.cell? ⟨b, o + i * 6 + 5, none⟩ = some (.int .i64 (z i 5)) := hc 5 (by omega)
          generalize z i 0 = kd at *
          generalize z i 1 = nw at *
          generalize z i 2 = tm at *
          generalize z i 3 = pl at *
          generalize z i 4 = ho at *
          generalize z i 5 = eo at *
          clear hc hcell
          have hwz := hlp.size
          have R0 := Lib.hid ((rp_start (k := kd) (n := nw) (t := tm) (p := pl) (h := ho) (e := eo) hlp).kept ((Only.refl _ _ _).alloc (.cells #[.int .i64 pl] 3)))
          obtain ⟨ls2, hls2⟩ : ∃ l, l = ls ++ [pl] := ⟨_, rfl⟩
          have HLS := Lib.hid hls2
          have HK2 : Hid (Lk (20 + 3 * i + 1) S ls2) := Lib.hid (by rw [hls2]; exact hlk.app HK.out)
          have HLE : Hid (ls.length ≤ 1000) := Lib.hid (by have := hlk.pls; omega)
          clear hls2 hlp hlk
          by_cases hk1 : kd = 1
          · subst hk1
            obtain ⟨⟨T, n, c⟩, hT⟩ : ∃ r, grantL S nw tm pl ho = r := ⟨_, rfl⟩
            have HT := Lib.hid hT
            have HT2 : Hid (grantL ⟨S.epoch, S.quiet, S.hs⟩ nw tm pl ho = (T, n, c)) := Lib.hid hT
            have HK3 : Hid (Lk (20 + 3 * i + 1 + 1) T ls2) := Lib.hid (by have := HK2.out.grant nw tm pl ho; rw [hT] at this; exact this)
            have HFEW : Hid ((lasting S.hs nw).length < 1000000) := Lib.hid (by have := lasting_len S.hs nw; have := HK2.out.len; omega)
            clear hT
            go_wp2_with (first
              | (at_builtin; refine wpList_append_ints _ rfl _ _ rfl (W1.heap.size + 2) _ ls [pl] rfl R0.out.lp.p _ 1 _ rfl (sl_newk _ pl _ (by simp)) (by have := HLE.out; simp; omega) R0.out.lp.size ?_; intro u1 w5 hown1 hg1; rw [← HLS.out] at hown1; have R1 := Lib.hid (R0.out.app hown1 hg1); obtain ⟨pa2, pc2, rfl, hsl⟩ := hown1.val; have HSL := Lib.hid hsl; clear hown1 hg1 hsl; obtain ⟨b0, b1, b2, bf⟩ := R1.out.lp.s.box; obtain ⟨x0, x1, x2, xf⟩ := R1.out.lp.x; obtain ⟨a0, a1, a2, a3, a4, a5⟩ := R1.out.act; have bf0 := bf 0; have bf1 := bf 1; have bf2 := bf 2; have xf0 := xf 0; have xf1 := xf 1; have xf2 := xf 2; clear bf xf)
              | (go_at_call 34; have HR := grantL_from (Only.refl _ _ w5) R1.out.lp.s.hs rfl rfl rfl rfl HK.out HK2.out.e0 HFEW.out HT.out; (with_reducible refine HR.mono ?_); clear HR; rintro e W3 ⟨m2, rfl, hm2, ho3, _⟩; have R2 := Lib.hid (R1.out.kept (ho3.alloc (.cells #[.int .i64 T.epoch, .int .i64 T.quiet, .map m2] 57))); have VT2 := Lib.hid (LVar.new (h := T) hm2); clear hm2 ho3; clear b0 b1 b2 x0 x1 x2 a0 a1 a2 a3 a4 a5 bf0 bf1 bf2 xf0 xf1 xf2; obtain ⟨b0, b1, b2, bf⟩ := R2.out.lp.s.box; obtain ⟨x0, x1, x2, xf⟩ := R2.out.lp.x; obtain ⟨a0, a1, a2, a3, a4, a5⟩ := R2.out.act; have bf0 := bf 0; have bf1 := bf 1; have bf2 := bf 2; have xf0 := xf 0; have xf1 := xf 1; have xf2 := xf 2; clear bf xf)
              | (go_at_call 37; have HR := grantR_any _ S.epoch S.quiet nw tm pl ho _ S.hs w.heap.size R2.out.lp.only.size R2.out.lp.o HK2.out.up (by have := HK2.out.len; omega) HK2.out.e0; (with_reducible refine HR.mono ?_); clear HR; rw [HT2.out]; rintro e W4 ⟨v2, rfl, hv2, hd2, ho4⟩; have HVB := Lib.hid (R2.out.vB hd2); obtain ⟨va2, vn2, vc2, rfl⟩ := own_val hv2; have R3 := Lib.hid (R2.out.kept (ho4.alloc (.cells #[.int .i64 T.epoch, .int .i64 T.quiet, .slice va2 vn2 vc2] 59))); have VT3 := Lib.hid (VT2.out.kept (ho4.alloc (.cells #[.int .i64 T.epoch, .int .i64 T.quiet, .slice va2 vn2 vc2] 59))); have OT3 := Lib.hid (hv2.grown ((Only.refl _ _ W4).alloc (.cells #[.int .i64 T.epoch, .int .i64 T.quiet, .slice va2 vn2 vc2] 59))); have XT3 := Lib.hid (XBox.of (top_at W4 (.cells #[.int .i64 T.epoch, .int .i64 T.quiet, .slice va2 vn2 vc2] 59) _ rfl)); have hz4 := R2.out.lp.size; have hy4 := ho4.size; clear hv2 hd2 ho4; clear b0 b1 b2 x0 x1 x2 a0 a1 a2 a3 a4 a5 bf0 bf1 bf2 xf0 xf1 xf2; obtain ⟨b0, b1, b2, bf⟩ := R3.out.lp.s.box; obtain ⟨x0, x1, x2, xf⟩ := R3.out.lp.x; obtain ⟨a0, a1, a2, a3, a4, a5⟩ := R3.out.act; have bf0 := bf 0; have bf1 := bf 1; have bf2 := bf 2; have xf0 := xf 0; have xf1 := xf 1; have xf2 := xf 2; clear bf xf; unfold xval)
              | (go_at_call 38; have HR := alike_any _ S.epoch S.quiet nw m1 _ S.hs R3.out.lp.s.hs R3.out.lp.o.reads HK2.out.up (by have := HK2.out.len; omega) pa2 pc2 ls2 R3.out.lp.p.again (by have := HK2.out.pls; omega) HK2.out.wf; (with_reducible refine HR.mono ?_); clear HR; rintro e W5 ⟨rfl, ho4⟩; have R4 := Lib.hid (R3.out.kept ho4); have VT4 := Lib.hid (VT3.out.kept ho4); have OT4 := Lib.hid (OT3.out.grown ho4); have XT4 := Lib.hid (XT3.out.kept ho4 (by simp) (.inl (by simp))); have hz5 := ho4.size; have hr4 := R4.out.lp.size; have R5 : Hid (Rp w (World.xthree (World.three W5 W1.heap.size T.epoch T.quiet m2) (W1.heap.size + 1) T.epoch T.quiet (.slice va2 vn2 vc2)) W1.heap.size wr.heap.size T m2 (.slice va2 vn2 vc2) ls2 (.slice pa2 ls2.length pc2) 1 nw tm pl ho eo) := Lib.hid (R4.out.set VT4.out.hs OT4.out HVB.out); unfold World.xthree World.three at R5; clear ho4; clear b0 b1 b2 x0 x1 x2 a0 a1 a2 a3 a4 a5 bf0 bf1 bf2 xf0 xf1 xf2; obtain ⟨b0, b1, b2, bf⟩ := R4.out.lp.s.box; obtain ⟨x0, x1, x2, xf⟩ := R4.out.lp.x; obtain ⟨a0, a1, a2, a3, a4, a5⟩ := R4.out.act; have bf0 := bf 0; have bf1 := bf 1; have bf2 := bf 2; have xf0 := xf 0; have xf1 := xf 1; have xf2 := xf 2; clear bf xf; obtain ⟨t0, t1, t2, _⟩ := VT4.out.box; obtain ⟨y0, y1, y2, _⟩ := XT4.out)
              | (go_at_call 38; have HR := alike_any _ T.epoch T.quiet nw m2 _ T.hs R5.out.lp.s.hs R5.out.lp.o.reads HK3.out.up (by have := HK3.out.len; omega) pa2 pc2 ls2 R5.out.lp.p.again (by have := HK3.out.pls; omega) HK3.out.wf; (with_reducible refine HR.mono ?_); clear HR; rintro e W6 ⟨rfl, ho4⟩; have R6 := Lib.hid (R5.out.kept ho4); clear ho4)
              | fail)
            go_roundw
            case rel => exact ⟨i + 1, T, m2, _, ls2, by go_num, by omega, by omega, R6.out.lp, HK3.out.mono (by omega)⟩
            case measure => simp [intOf]; omega
          by_cases hk2 : kd = 2
          · subst hk2
            clear hk1
            obtain ⟨⟨T, c⟩, hT⟩ : ∃ r, letL S nw pl ho eo = r := ⟨_, rfl⟩
            have HT := Lib.hid hT
            have HT2 : Hid (letL ⟨S.epoch, S.quiet, S.hs⟩ nw pl ho eo = (T, c)) := Lib.hid hT
            have HK3 : Hid (Lk (20 + 3 * i + 1 + 1) T ls2) := Lib.hid (by have := HK2.out.letting nw pl ho eo; rw [hT] at this; exact this)
            clear hT
            go_wp2_with (first
              | (at_builtin; refine wpList_append_ints _ rfl _ _ rfl (W1.heap.size + 2) _ ls [pl] rfl R0.out.lp.p _ 1 _ rfl (sl_newk _ pl _ (by simp)) (by have := HLE.out; simp; omega) R0.out.lp.size ?_; intro u1 w5 hown1 hg1; rw [← HLS.out] at hown1; have R1 := Lib.hid (R0.out.app hown1 hg1); obtain ⟨pa2, pc2, rfl, hsl⟩ := hown1.val; have HSL := Lib.hid hsl; clear hown1 hg1 hsl; obtain ⟨b0, b1, b2, bf⟩ := R1.out.lp.s.box; obtain ⟨x0, x1, x2, xf⟩ := R1.out.lp.x; obtain ⟨a0, a1, a2, a3, a4, a5⟩ := R1.out.act; have bf0 := bf 0; have bf1 := bf 1; have bf2 := bf 2; have xf0 := xf 0; have xf1 := xf 1; have xf2 := xf 2; clear bf xf)
              | (go_at_call 36; have HR := letL_from (Only.refl _ _ w5) R1.out.lp.s.hs rfl rfl rfl rfl HK.out HT.out; (with_reducible refine HR.mono ?_); clear HR; rintro e W3 ⟨m2, rfl, hm2, ho3, _⟩; have R2 := Lib.hid (R1.out.kept (ho3.alloc (.cells #[.int .i64 T.epoch, .int .i64 T.quiet, .map m2] 57))); have VT2 := Lib.hid (LVar.new (h := T) hm2); clear hm2 ho3; clear b0 b1 b2 x0 x1 x2 a0 a1 a2 a3 a4 a5 bf0 bf1 bf2 xf0 xf1 xf2; obtain ⟨b0, b1, b2, bf⟩ := R2.out.lp.s.box; obtain ⟨x0, x1, x2, xf⟩ := R2.out.lp.x; obtain ⟨a0, a1, a2, a3, a4, a5⟩ := R2.out.act; have bf0 := bf 0; have bf1 := bf 1; have bf2 := bf 2; have xf0 := xf 0; have xf1 := xf 1; have xf2 := xf 2; clear bf xf)
              | (go_at_call 39; have HR := letR_any _ S.epoch S.quiet nw pl ho eo _ S.hs w.heap.size R2.out.lp.only.size R2.out.lp.o HK2.out.up (by have := HK2.out.len; omega); (with_reducible refine HR.mono ?_); clear HR; rw [HT2.out]; rintro e W4 ⟨v2, rfl, hv2, hd2, ho4⟩; have HVB := Lib.hid (R2.out.vB hd2); obtain ⟨va2, vn2, vc2, rfl⟩ := own_val hv2; have R3 := Lib.hid (R2.out.kept (ho4.alloc (.cells #[.int .i64 T.epoch, .int .i64 T.quiet, .slice va2 vn2 vc2] 59))); have VT3 := Lib.hid (VT2.out.kept (ho4.alloc (.cells #[.int .i64 T.epoch, .int .i64 T.quiet, .slice va2 vn2 vc2] 59))); have OT3 := Lib.hid (hv2.grown ((Only.refl _ _ W4).alloc (.cells #[.int .i64 T.epoch, .int .i64 T.quiet, .slice va2 vn2 vc2] 59))); have XT3 := Lib.hid (XBox.of (top_at W4 (.cells #[.int .i64 T.epoch, .int .i64 T.quiet, .slice va2 vn2 vc2] 59) _ rfl)); have hz4 := R2.out.lp.size; have hy4 := ho4.size; clear hv2 hd2 ho4; clear b0 b1 b2 x0 x1 x2 a0 a1 a2 a3 a4 a5 bf0 bf1 bf2 xf0 xf1 xf2; obtain ⟨b0, b1, b2, bf⟩ := R3.out.lp.s.box; obtain ⟨x0, x1, x2, xf⟩ := R3.out.lp.x; obtain ⟨a0, a1, a2, a3, a4, a5⟩ := R3.out.act; have bf0 := bf 0; have bf1 := bf 1; have bf2 := bf 2; have xf0 := xf 0; have xf1 := xf 1; have xf2 := xf 2; clear bf xf; unfold xval)
              | (go_at_call 38; have HR := alike_any _ S.epoch S.quiet nw m1 _ S.hs R3.out.lp.s.hs R3.out.lp.o.reads HK2.out.up (by have := HK2.out.len; omega) pa2 pc2 ls2 R3.out.lp.p.again (by have := HK2.out.pls; omega) HK2.out.wf; (with_reducible refine HR.mono ?_); clear HR; rintro e W5 ⟨rfl, ho4⟩; have R4 := Lib.hid (R3.out.kept ho4); have VT4 := Lib.hid (VT3.out.kept ho4); have OT4 := Lib.hid (OT3.out.grown ho4); have XT4 := Lib.hid (XT3.out.kept ho4 (by simp) (.inl (by simp))); have hz5 := ho4.size; have hr4 := R4.out.lp.size; have R5 : Hid (Rp w (World.xthree (World.three W5 W1.heap.size T.epoch T.quiet m2) (W1.heap.size + 1) T.epoch T.quiet (.slice va2 vn2 vc2)) W1.heap.size wr.heap.size T m2 (.slice va2 vn2 vc2) ls2 (.slice pa2 ls2.length pc2) 2 nw tm pl ho eo) := Lib.hid (R4.out.set VT4.out.hs OT4.out HVB.out); unfold World.xthree World.three at R5; clear ho4; clear b0 b1 b2 x0 x1 x2 a0 a1 a2 a3 a4 a5 bf0 bf1 bf2 xf0 xf1 xf2; obtain ⟨b0, b1, b2, bf⟩ := R4.out.lp.s.box; obtain ⟨x0, x1, x2, xf⟩ := R4.out.lp.x; obtain ⟨a0, a1, a2, a3, a4, a5⟩ := R4.out.act; have bf0 := bf 0; have bf1 := bf 1; have bf2 := bf 2; have xf0 := xf 0; have xf1 := xf 1; have xf2 := xf 2; clear bf xf; obtain ⟨t0, t1, t2, _⟩ := VT4.out.box; obtain ⟨y0, y1, y2, _⟩ := XT4.out)
              | (go_at_call 38; have HR := alike_any _ T.epoch T.quiet nw m2 _ T.hs R5.out.lp.s.hs R5.out.lp.o.reads HK3.out.up (by have := HK3.out.len; omega) pa2 pc2 ls2 R5.out.lp.p.again (by have := HK3.out.pls; omega) HK3.out.wf; (with_reducible refine HR.mono ?_); clear HR; rintro e W6 ⟨rfl, ho4⟩; have R6 := Lib.hid (R5.out.kept ho4); clear ho4)
              | fail)
            go_roundw
            case rel => exact ⟨i + 1, T, m2, _, ls2, by go_num, by omega, by omega, R6.out.lp, HK3.out.mono (by omega)⟩
            case measure => simp [intOf]; omega
          by_cases hk3 : kd = 3
          · subst hk3
            clear hk1 hk2
            obtain ⟨Q, hQ⟩ : ∃ Q, quietL nw tm = Q := ⟨_, rfl⟩
            obtain ⟨T, hT⟩ : ∃ T : LS, T = ⟨S.epoch, Q, []⟩ := ⟨_, rfl⟩
            have HT := Lib.hid hT
            have HQ := Lib.hid hQ
            have HTE : Hid (T.epoch = S.epoch) := Lib.hid (by rw [hT])
            have HTQ : Hid (T.quiet = Q) := Lib.hid (by rw [hT])
            have HTH : Hid (T.hs = []) := Lib.hid (by rw [hT])
            have HK3 : Hid (Lk (20 + 3 * i + 1 + 1) T ls2) := Lib.hid (by rw [hT]; exact HK2.out.restart Q)
            clear hT hQ
            go_wp2_with (first
              | (at_builtin; refine wpList_append_ints _ rfl _ _ rfl (W1.heap.size + 2) _ ls [pl] rfl R0.out.lp.p _ 1 _ rfl (sl_newk _ pl _ (by simp)) (by have := HLE.out; simp; omega) R0.out.lp.size ?_; intro u1 w5 hown1 hg1; rw [← HLS.out] at hown1; have R1 := Lib.hid (R0.out.app hown1 hg1); obtain ⟨pa2, pc2, rfl, hsl⟩ := hown1.val; have HSL := Lib.hid hsl; clear hown1 hg1 hsl; obtain ⟨b0, b1, b2, bf⟩ := R1.out.lp.s.box; obtain ⟨x0, x1, x2, xf⟩ := R1.out.lp.x; obtain ⟨a0, a1, a2, a3, a4, a5⟩ := R1.out.act; have bf0 := bf 0; have bf1 := bf 1; have bf2 := bf 2; have xf0 := xf 0; have xf1 := xf 1; have xf2 := xf 2; clear bf xf)
              | (go_at_call 33; have HR := restart_from (Only.refl _ _ w5) m1 S.epoch S.quiet nw tm; (with_reducible refine HR.mono ?_); clear HR; rw [HQ.out]; rintro e W3 ⟨rfl, ho3, _⟩; have R2 := Lib.hid (R1.out.kept ho3); clear ho3; clear b0 b1 b2 x0 x1 x2 a0 a1 a2 a3 a4 a5 bf0 bf1 bf2 xf0 xf1 xf2; obtain ⟨b0, b1, b2, bf⟩ := R2.out.lp.s.box; obtain ⟨x0, x1, x2, xf⟩ := R2.out.lp.x; obtain ⟨a0, a1, a2, a3, a4, a5⟩ := R2.out.act; have bf0 := bf 0; have bf1 := bf 1; have bf2 := bf 2; have xf0 := xf 0; have xf1 := xf 1; have xf2 := xf 2; clear bf xf; have hr4 := R2.out.lp.size)
              | (go_at_call 40; have HR := restartR_any (((W3.setCell ⟨W1.heap.size, 0, none⟩ (.int .i64 S.epoch)).setCell ⟨W1.heap.size, 1, none⟩ (.int .i64 Q)).setCell ⟨W1.heap.size, 2, none⟩ (.map none)) S.epoch S.quiet nw tm (.slice va1 vn1 vc1); (with_reducible refine HR.mono ?_); clear HR; rw [HQ.out]; rintro e W4 ⟨rfl, ho4⟩; have hx := R2.out.lp.xrest (e := S.epoch) (q := Q) (m' := none) ho4; have hs := R2.out.lp.srest (e := S.epoch) (q := Q) (m' := none) ho4; have ha := R2.out.actrest (e' := S.epoch) (q := Q) (m' := none) ho4; have R5 : Hid (Rp w (World.xthree W4 (W1.heap.size + 1) S.epoch Q (.slice none 0 0)) W1.heap.size wr.heap.size T none (.slice none 0 0) ls2 (.slice pa2 ls2.length pc2) 3 nw tm pl ho eo) := Lib.hid (by have h := R2.out.set2 (S' := T) (m' := none) (v' := .slice none 0 0) (X := W4) (by rw [HTH.out]; rfl) (by rw [HTE.out, HTQ.out]; exact ho4) (by rw [HTH.out]; exact OwnS.nil _ _ _) (fun g hg => by cases hg); rw [HTE.out, HTQ.out] at h; exact h); unfold World.xthree at R5; clear ho4; clear b0 b1 b2 x0 x1 x2 a0 a1 a2 a3 a4 a5 bf0 bf1 bf2 xf0 xf1 xf2; obtain ⟨c0, c1, c2, cf⟩ := hx; have cf0 := cf 0; have cf1 := cf 1; have cf2 := cf 2; clear cf; obtain ⟨d0, d1, d2, _⟩ := hs; obtain ⟨a0, a1, a2, a3, a4, a5⟩ := ha)
              | (go_at_call 38; have HR := alike_any _ T.epoch T.quiet nw none _ T.hs R5.out.lp.s.hs R5.out.lp.o.reads HK3.out.up (by have := HK3.out.len; omega) pa2 pc2 ls2 R5.out.lp.p.again (by have := HK3.out.pls; omega) HK3.out.wf; rw [HTE.out, HTQ.out] at HR; (with_reducible refine HR.mono ?_); clear HR; rintro e W6 ⟨rfl, ho4⟩; have R6 := Lib.hid (R5.out.kept ho4); clear ho4)
              | fail)
            go_roundw
            case rel => exact ⟨i + 1, T, none, _, ls2, by go_num, by omega, by omega, R6.out.lp, HK3.out.mono (by omega)⟩
            case measure => simp [intOf]; omega
          · skip
            have e1 : (kd == 1) = false := beq_eq_false_iff_ne.2 hk1
            have e2 : (kd == 2) = false := beq_eq_false_iff_ne.2 hk2
            have e3 : (kd == 3) = false := beq_eq_false_iff_ne.2 hk3
            clear hk1 hk2 hk3
            go_wp2_with (first
              | (at_builtin; refine wpList_append_ints _ rfl _ _ rfl (W1.heap.size + 2) _ ls [pl] rfl R0.out.lp.p _ 1 _ rfl (sl_newk _ pl _ (by simp)) (by have := HLE.out; simp; omega) R0.out.lp.size ?_; intro u1 w5 hown1 hg1; rw [← HLS.out] at hown1; have R1 := Lib.hid (R0.out.app hown1 hg1); obtain ⟨pa2, pc2, rfl, hsl⟩ := hown1.val; have HSL := Lib.hid hsl; clear hown1 hg1 hsl; obtain ⟨b0, b1, b2, bf⟩ := R1.out.lp.s.box; obtain ⟨x0, x1, x2, xf⟩ := R1.out.lp.x; obtain ⟨a0, a1, a2, a3, a4, a5⟩ := R1.out.act; have bf0 := bf 0; have bf1 := bf 1; have bf2 := bf 2; have xf0 := xf 0; have xf1 := xf 1; have xf2 := xf 2; clear bf xf)
              | (go_at_call 38; have HR := alike_any _ S.epoch S.quiet nw m1 _ S.hs R1.out.lp.s.hs R1.out.lp.o.reads HK2.out.up (by have := HK2.out.len; omega) pa2 pc2 ls2 R1.out.lp.p.again (by have := HK2.out.pls; omega) HK2.out.wf; (with_reducible refine HR.mono ?_); clear HR; rintro e W6 ⟨rfl, ho4⟩; have R6 := Lib.hid (R1.out.kept ho4); clear ho4)
              | fail)
            go_roundw
            case rel => exact ⟨i + 1, S, m1, _, ls2, by go_num, by omega, by omega, R6.out.lp, HK2.out.mono (by omega)⟩
            case measure => simp [intOf]; omega
        · by_cases hl : i < len
          · have hi : i = 30 := by omega
            have hd1 : decide ((i : Int) < 30) = false := decide_eq_false (by omega)
            have HLP := Lib.hid hlp
            clear hi hlt hlp hlk
            go_wp2_with fail
            go_ret
            exact ⟨rfl, HLP.out.only⟩
          · have HLP := Lib.hid hlp
            clear hlt hlp hlk
            go_wp2_with fail
            go_ret
            exact ⟨rfl, HLP.out.only⟩
end Go.Proofs.Ytefllgpehhlkoaa
