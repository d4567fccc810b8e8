/-
  LeaseEpochs, its walk.
-/
import Derived.Test.YtefllgpehhlkoaaLeaseQ
import Derived.Test.YtefllgpehhlkoaaEarlyW
import Derived.Deep.RegionHeld3
namespace Go.Proofs.Ytefllgpehhlkoaa
open Go.RowKit Go.Maps
set_option linter.unusedVariables false

/-- an act's cells -/
structure ABox (w : World) (b : Nat) (k n t p h e : Int) : Prop where
  c0 : w.cell? ⟨b, 0, none⟩ = some (.int .i64 k)
  c1 : w.cell? ⟨b, 1, none⟩ = some (.int .i64 n)
  c2 : w.cell? ⟨b, 2, none⟩ = some (.int .i64 t)
  c3 : w.cell? ⟨b, 3, none⟩ = some (.int .i64 p)
  c4 : w.cell? ⟨b, 4, none⟩ = some (.int .i64 h)
  c5 : w.cell? ⟨b, 5, none⟩ = some (.int .i64 e)
theorem ABox.of {w : World} {b : Nat} {k n t p h e : Int} {ty : TypeId} (hb : w.heap[b]? = some (.cells #[.int .i64 k, .int .i64 n, .int .i64 t, .int .i64 p, .int .i64 h, .int .i64 e] ty)) : ABox w b k n t p h e := by
  constructor <;> simp [World.cell?, hb]
theorem ABox.kept {w w' : World} {b lo hi : Nat} {k n t p h e : Int} (a : ABox w b k n t p h e) (o : Only lo hi w w') (hb : b < w.heap.size) (hs : b < lo ∨ hi ≤ b) : ABox w' b k n t p h e :=
  ⟨by rw [o.cell (by exact hb) (by exact hs)]; exact a.c0, by rw [o.cell (by exact hb) (by exact hs)]; exact a.c1, by rw [o.cell (by exact hb) (by exact hs)]; exact a.c2, by rw [o.cell (by exact hb) (by exact hs)]; exact a.c3, by rw [o.cell (by exact hb) (by exact hs)]; exact a.c4, by rw [o.cell (by exact hb) (by exact hs)]; exact a.c5⟩

/-- what the loop keeps -/
structure Ep (w W : World) (i : Nat) (S : LS) (m : Option Nat) (now : Int) : Prop where
  var : LVar W w.heap.size S m
  only : Only w.heap.size w.heap.size w W
  n0 : 0 ≤ now
  n1 : now ≤ 100 * i
  e0 : 0 ≤ S.epoch
  e1 : S.epoch ≤ i
  up : Rising S.hs
  len : S.hs.length ≤ i
def EpRel (w : World) (len : Nat) (nv lv iv : Value) (W : World) : Prop :=
  ∃ (i : Nat) (S : LS) (m : Option Nat) (now : Int), iv = .int .i64 i ∧ i ≤ 40 ∧ i ≤ len ∧ nv = .int .i64 now ∧ lv = .int .i64 S.epoch ∧ Ep w W i S m now

/-- three ints in a block -/
def TBox (w : World) (b : Nat) (x y z : Int) : Prop :=
  w.cell? ⟨b, 0, none⟩ = some (.int .i64 x) ∧ w.cell? ⟨b, 1, none⟩ = some (.int .i64 y) ∧ w.cell? ⟨b, 2, none⟩ = some (.int .i64 z)
theorem TBox.of {w : World} {b : Nat} {x y z : Int} {t : TypeId} (h : w.heap[b]? = some (.cells #[.int .i64 x, .int .i64 y, .int .i64 z] t)) : TBox w b x y z := by
  refine ⟨?_, ?_, ?_⟩ <;> simp [World.cell?, h]
theorem TBox.kept {w w' : World} {b lo hi : Nat} {x y z : Int} (h : TBox w b x y z) (o : Only lo hi w w') (hb : b < w.heap.size) (hs : b < lo ∨ hi ≤ b) : TBox w' b x y z :=
  ⟨by rw [o.cell (by exact hb) (by exact hs)]; exact h.1, by rw [o.cell (by exact hb) (by exact hs)]; exact h.2.1, by rw [o.cell (by exact hb) (by exact hs)]; exact h.2.2⟩
/-- what a round reads: the state, the act, who had the place -/
structure Rd (W : World) (B A C : Nat) (S : LS) (m : Option Nat) (k n t p h e x y z : Int) : Prop where
  var : LVar W B S m
  act : ABox W A k n t p h e
  bef : TBox W C x y z
  la : A < W.heap.size
  lc : C < W.heap.size
theorem Rd.kept {W W' : World} {B A C : Nat} {S : LS} {m : Option Nat} {k n t p h e x y z : Int} (r : Rd W B A C S m k n t p h e x y z) (o : Only W.heap.size W.heap.size W W') : Rd W' B A C S m k n t p h e x y z :=
  ⟨r.var.kept o, r.act.kept o r.la (.inl r.la), r.bef.kept o r.lc (.inl r.lc), Nat.lt_of_lt_of_le r.la o.size, Nat.lt_of_lt_of_le r.lc o.size⟩
theorem rd_start {wr W1 : World} {B : Nat} {S : LS} {m : Option Nat} {k n t p h e x y z : Int} (v : LVar (wr.alloc (.cells #[.int .i64 k, .int .i64 n, .int .i64 t, .int .i64 p, .int .i64 h, .int .i64 e] 73)) B S m)
    (o : Only (wr.alloc (.cells #[.int .i64 k, .int .i64 n, .int .i64 t, .int .i64 p, .int .i64 h, .int .i64 e] 73)).heap.size (wr.alloc (.cells #[.int .i64 k, .int .i64 n, .int .i64 t, .int .i64 p, .int .i64 h, .int .i64 e] 73)).heap.size (wr.alloc (.cells #[.int .i64 k, .int .i64 n, .int .i64 t, .int .i64 p, .int .i64 h, .int .i64 e] 73)) W1) :
    Rd (W1.alloc (.cells #[.int .i64 x, .int .i64 y, .int .i64 z] 82)) B wr.heap.size W1.heap.size S m k n t p h e x y z := by
  have o2 := o.alloc (.cells #[.int .i64 x, .int .i64 y, .int .i64 z] 82)
  have hs := o.size
  simp at hs
  exact ⟨v.kept o2, (ABox.of (top_at _ _ _ rfl)).kept o2 (by simp) (.inl (by simp)), TBox.of (top_at _ _ _ rfl), by simp; omega, by simp⟩

theorem mapis_none (W : World) : MapIs tripE W none [] := rfl
theorem count_from {X V : World} (hX : Only X.heap.size X.heap.size X V) (epoch quiet now : Int) (m : Option Nat) (es : Trips) (h : ∀ W, Only X.heap.size X.heap.size X W → MapIs tripE W m es) (hlen : es.length < 1000000) :
    Calls Try.prog 35 #[.agg #[.int .i64 epoch, .int .i64 quiet, .map m], .int .i64 now] V fun e w' => e = .returned (.int .i64 (lasting es now).length) ∧ Only X.heap.size X.heap.size X w' :=
  (count_any V epoch quiet now m es (h V hX) hlen).mono fun e w' hh => ⟨hh.1, hX.then hh.2 hX.size⟩
theorem count_agg (w : World) (epoch quiet now : Int) (m : Option Nat) (es : Trips) (h : MapIs tripE w m es) (hlen : es.length < 1000000) :
    Calls Try.prog 35 #[.agg #[.int .i64 epoch, .int .i64 quiet, .map m], .int .i64 now] w fun e w' => e = .returned (.int .i64 (lasting es now).length) ∧ Only w.heap.size w.heap.size w w' := count_any w epoch quiet now m es h hlen
theorem Ep.step {w W W' : World} {i : Nat} {S : LS} {m : Option Nat} {now now' : Int} (h : Ep w W i S m now) (v : LVar W' w.heap.size S m) (o : Only w.heap.size w.heap.size w W') (h0 : 0 ≤ now') (h1 : now' ≤ 100 * ((i : Int) + 1)) : Ep w W' (i + 1) S m now' :=
  ⟨v, o, h0, by omega, h.e0, by have := h.e1; omega, h.up, by have := h.len; omega⟩
theorem Ep.next {w W W' : World} {i : Nat} {S S' : LS} {m m' : Option Nat} {now now' : Int} (h : Ep w W i S m now) (v : LVar W' w.heap.size S' m') (o : Only w.heap.size w.heap.size w W') (h0 : 0 ≤ now') (h1 : now' ≤ 100 * ((i : Int) + 1)) (e0 : 0 ≤ S'.epoch) (e1 : S'.epoch ≤ (i : Int) + 1) (up : Rising S'.hs) (len : S'.hs.length ≤ i + 1) : Ep w W' (i + 1) S' m' now' :=
  ⟨v, o, h0, by omega, e0, by omega, up, len⟩

set_option maxRecDepth 100000 in
set_option maxHeartbeats 20000000 in
theorem epochs_any (w : World) (a : Option Addr) (len cap : Nat) (z : Nat → Nat → Int) (hz : IsRecs w 6 a len cap z) :
    Calls Try.prog 11 #[.slice a len cap] w (TrueOnly w) := by
  have hO : Hid (Only w.heap.size w.heap.size w w) := Lib.hid (Only.refl _ _ _)
  have HZ := Lib.hid hz
  have hcap : cap ≤ 9223372036854775807 := hz.2.1
  have hlc : len ≤ cap := hz.1
  clear hz
  go_enter Try.func11, Try.ntmps11
  go_wp2_with fail
  go_loopw [4, 5, 6] (fun nv lv iv wr => EpRel w len nv lv iv wr) (fun _ _ iv _ => len - (intOf iv).toNat)
  case atStart =>
    refine ⟨0, ⟨0, 0, []⟩, none, 0, rfl, by omega, by omega, rfl, rfl, ?_⟩
    exact ⟨LVar.new (w := w) (h := ⟨0, 0, []⟩) (m := none) rfl, hO.out.alloc _, by omega, by omega, by simp, by simp, List.Pairwise.nil, by simp⟩
  case round =>
    obtain ⟨i, S, m, now, rfl, hi40, hil, rfl, rfl, hep⟩ := hrel
    by_cases hlt : i < len ∧ i < 40
    · obtain ⟨hlt, h40⟩ := hlt
      have h40' : (i : Int) < 40 := by omega
      obtain ⟨b, o, rfl, hbb, hcell⟩ : ∃ b o, a = some ⟨b, o, none⟩ ∧ b < w.heap.size ∧ ∀ i, i < len → ∀ j, j < 6 → w.cell? ⟨b, o + (i * 6 + j), none⟩ = some (.int .i64 (z i j)) ∧ (Lit.int .i64 (z i j)).wf = true := by
        rcases HZ.out.2.2 with h0 | h0
        · omega
        · exact h0
      have hc : ∀ j, j < 6 → wr.cell? ⟨b, o + (i * 6 + j), none⟩ = some (.int .i64 (z i j)) := fun j hj => (hep.only.cell (by exact hbb) (.inl (by exact hbb))).trans (hcell i hlt j hj).1
      have HK := Lib.hid (hcell i hlt 3 (by omega)).2
      have q0 : wr.cell? ⟨b, o + i * 6, none⟩ = some (.int .i64 (z i 0)) := hc 0 (by omega)
      have q1 : wr.cell? ⟨b, o + i * 6 + 1, none⟩ = some (.int .i64 (z i 1)) := hc 1 (by omega)
      have q2 : wr.cell? ⟨b, o + i * 6 + 2, none⟩ = some (.int .i64 (z i 2)) := hc 2 (by omega)
      have q3 : wr.cell? ⟨b, o + i * 6 + 3, none⟩ = some (.int .i64 (z i 3)) := hc 3 (by omega)
      have q4 : wr.cell? ⟨b, o + i * 6 + 4, none⟩ = some (.int .i64 (z i 4)) := hc 4 (by omega)
      have q5 : wr.cell? ⟨b, o + i * 6 + 5, none⟩ = some (.int .i64 (z i 5)) := hc 5 (by omega)
      generalize z i 0 = kd at *
      generalize z i 1 = nw at *
      generalize z i 2 = tm at *
      generalize z i 3 = pl at *
      generalize z i 4 = ho at *
      generalize z i 5 = eo at *
      clear hc hcell
      obtain ⟨mn, hmn⟩ : ∃ mn : Int, (if 100 < nw then (100 : Int) else nw) = mn := ⟨_, rfl⟩
      obtain ⟨d, hd⟩ : ∃ d : Int, (if 0 < mn then mn else (0 : Int)) = d := ⟨_, rfl⟩
      have hd0 : 0 ≤ d ∧ d ≤ 100 := by
        rw [← hd, ← hmn]
        by_cases h1 : 100 < nw
        · simp [h1]
        · rw [if_neg h1]
          by_cases h2 : 0 < nw
          · rw [if_pos h2]; omega
          · rw [if_neg h2]; omega
      obtain ⟨hd1, hd2⟩ := hd0
      have hn0 := hep.n0
      have hn1 := hep.n1
      have V0 := Lib.hid (hep.var.kept ((Only.refl _ _ wr).alloc (.cells #[.int .i64 kd, .int .i64 nw, .int .i64 tm, .int .i64 pl, .int .i64 ho, .int .i64 eo] 73)))
      obtain ⟨b0, b1, b2, _⟩ := V0.out.box
      have HGC := Lib.hid (fun tm pl ho => grantL_cases S (now + d) tm pl ho hep.up)
      have HEP : Hid (-9223372036854775808 ≤ S.epoch) := Lib.hid (by have := hep.e0; omega)
      have HFEW : Hid ((lasting S.hs (now + d)).length < 1000000) := Lib.hid (by have := lasting_len S.hs (now + d); have := hep.len; omega)
      have he0 := hep.e0
      have he1 := hep.e1
      have HE := Lib.hid hep
      clear hep
      cases hw : whoL S.hs (now + d) pl with
      | none =>
        -- none
        have HW : Hid (whoL S.hs (now + d) pl = none) := Lib.hid hw
        clear hw
        by_cases hk1 : kd = 1
        · subst hk1
          rcases HGC.out tm pl ho with ⟨c, hc, HG'⟩ | ⟨HG', hto, hqo, heo, hwo⟩
          · have HG := Lib.hid HG'
            have hcn : (c != 0) = true := by rcases hc with rfl | rfl | rfl | rfl <;> rfl
            have hcn2 : decide (c = 0) = false := by rcases hc with rfl | rfl | rfl | rfl <;> rfl
            clear HG' hc
            go_wp2_with (first
              | (go_at_call 41; have HR := who_any _ S.epoch S.quiet (now + d) pl m _ V0.out.hs HK.out; unfold lval at HR; (with_reducible refine HR.mono ?_); clear HR; unfold Whoed; rw [HW.out]; dsimp only [Option.getD, Option.isSome, tripE]; rintro e W1 ⟨rfl, ho1⟩; have R1 := Lib.hid (rd_start (x := 0) (y := 0) (z := 0) V0.out ho1); have o1 := Lib.hid (((HE.out.only.alloc _).then ho1 (Nat.le_trans HE.out.only.size (by simp))).alloc (.cells #[.int .i64 0, .int .i64 0, .int .i64 0] 82)); clear ho1 b0 b1 b2; obtain ⟨b0, b1, b2, _⟩ := R1.out.var.box; obtain ⟨a0, a1, a2, a3, a4, a5⟩ := R1.out.act; obtain ⟨f0, f1, f2⟩ := R1.out.bef)
              | (go_at_call 34; have HR := grantL_any _ (lval S.epoch S.quiet m) S (now + d) tm pl ho R1.out.var.is HK.out HEP.out HFEW.out; unfold lval at HR; (with_reducible refine HR.mono ?_); clear HR; rw [HG.out]; rintro e W2 ⟨v2, rfl, ⟨m2, rfl, x1'⟩, ho2⟩; have R2 := Lib.hid (R1.out.kept (ho2.alloc (.cells #[.int .i64 S.epoch, .int .i64 S.quiet, .map m2] 57))); have o2 := Lib.hid ((o1.out.then ho2 o1.out.size).alloc (.cells #[.int .i64 S.epoch, .int .i64 S.quiet, .map m2] 57)); clear ho2 x1'; clear b0 b1 b2 a0 a1 a2 a3 a4 a5 f0 f1 f2; obtain ⟨b0, b1, b2, bf⟩ := R2.out.var.box; obtain ⟨a0, a1, a2, a3, a4, a5⟩ := R2.out.act; obtain ⟨f0, f1, f2⟩ := R2.out.bef; unfold lval)
              | fail)
            go_roundw
            case rel => exact ⟨i + 1, S, m, now + d, by go_num, by omega, by omega, rfl, rfl, HE.out.step R2.out.var o2.out (by omega) (by omega)⟩
            case measure => simp [intOf]; omega
          · have HG := Lib.hid HG'
            have hto1 : 1 ≤ tm := hto.1
            have hto2 : tm ≤ 1048576 := hto.2.1
            obtain ⟨T, hT⟩ : ∃ T : LS, T = ⟨S.epoch + 1, S.quiet, mput (lasting S.hs (now + d)) pl (ho, S.epoch + 1, now + d + tm)⟩ := ⟨_, rfl⟩
            have HTE := Lib.hid hT
            have HT0 : Hid (T.epoch = S.epoch + 1) := Lib.hid (by rw [hT])
            have HT1 : Hid (T.quiet = S.quiet) := Lib.hid (by rw [hT])
            have HW2 : Hid (whoL T.hs (now + d) pl = some (ho, S.epoch + 1, now + d + tm)) := Lib.hid (by rw [hT]; simp only; rw [whoL_put, if_pos rfl, if_neg (by simp only; omega)])
            have HNX : Hid (Rising T.hs ∧ T.hs.length ≤ i + 1) := Lib.hid (by
              rw [hT]
              refine ⟨mput_rising (lasting_rising HE.out.up _) _ _, ?_⟩
              have h1 := mput_len (lasting S.hs (now + d)) pl (ho, S.epoch + 1, now + d + tm)
              have h2 := lasting_len S.hs (now + d)
              have h3 := HE.out.len
              simp only
              omega)
            have hle : decide (S.epoch + 1 ≤ S.epoch) = false := decide_eq_false (by omega)
            have hgt : (if S.epoch < S.epoch + 1 then S.epoch + 1 else S.epoch) = S.epoch + 1 := if_pos (by omega)
            clear HG' hT hto hqo heo hwo
            go_wp2_with (first
              | (go_at_call 41; have HR := who_any _ S.epoch S.quiet (now + d) pl m _ V0.out.hs HK.out; unfold lval at HR; (with_reducible refine HR.mono ?_); clear HR; unfold Whoed; rw [HW.out]; dsimp only [Option.getD, Option.isSome, tripE]; rintro e W1 ⟨rfl, ho1⟩; have R1 := Lib.hid (rd_start (x := 0) (y := 0) (z := 0) V0.out ho1); have o1 := Lib.hid (((HE.out.only.alloc _).then ho1 (Nat.le_trans HE.out.only.size (by simp))).alloc (.cells #[.int .i64 0, .int .i64 0, .int .i64 0] 82)); clear ho1 b0 b1 b2; obtain ⟨b0, b1, b2, _⟩ := R1.out.var.box; obtain ⟨a0, a1, a2, a3, a4, a5⟩ := R1.out.act; obtain ⟨f0, f1, f2⟩ := R1.out.bef)
              | (go_at_call 34; have HR := grantL_any _ (lval S.epoch S.quiet m) S (now + d) tm pl ho R1.out.var.is HK.out HEP.out HFEW.out; unfold lval at HR; (with_reducible refine HR.mono ?_); clear HR; rw [HG.out]; rintro e W2 ⟨v2, rfl, ⟨m2, rfl, x1'⟩, ho2⟩; have R2 := Lib.hid (R1.out.kept (ho2.alloc (.cells #[.int .i64 (S.epoch + 1), .int .i64 S.quiet, .map m2] 57))); have VT : Hid (LVar (W2.alloc (.cells #[.int .i64 (S.epoch + 1), .int .i64 S.quiet, .map m2] 57)) W2.heap.size T m2) := Lib.hid (by rw [HTE.out]; exact LVar.new (h := ⟨S.epoch + 1, S.quiet, mput (lasting S.hs (now + d)) pl (ho, S.epoch + 1, now + d + tm)⟩) x1'); have o2 := Lib.hid ((o1.out.then ho2 o1.out.size).alloc (.cells #[.int .i64 (S.epoch + 1), .int .i64 S.quiet, .map m2] 57)); clear ho2 x1'; clear b0 b1 b2 a0 a1 a2 a3 a4 a5 f0 f1 f2; obtain ⟨b0, b1, b2, bf⟩ := R2.out.var.box; obtain ⟨a0, a1, a2, a3, a4, a5⟩ := R2.out.act; obtain ⟨f0, f1, f2⟩ := R2.out.bef; unfold lval; dsimp only)
              | (go_at_call 41; have HR := who_any _ (S.epoch + 1) S.quiet (now + d) pl m2 _ VT.out.hs HK.out; unfold lval at HR; (with_reducible refine HR.mono ?_); clear HR; unfold Whoed; rw [HW2.out]; dsimp only [Option.getD, Option.isSome, tripE]; rintro e W3 ⟨rfl, ho3⟩; have R3 := Lib.hid (R2.out.kept (ho3.alloc (.cells #[.int .i64 ho, .int .i64 (S.epoch + 1), .int .i64 (now + d + tm)] 82))); have VT3 := Lib.hid (VT.out.kept (ho3.alloc (.cells #[.int .i64 ho, .int .i64 (S.epoch + 1), .int .i64 (now + d + tm)] 82))); have o3 := Lib.hid ((o2.out.then ho3 o2.out.size).alloc (.cells #[.int .i64 ho, .int .i64 (S.epoch + 1), .int .i64 (now + d + tm)] 82)); clear ho3; clear b0 b1 b2 a0 a1 a2 a3 a4 a5 f0 f1 f2; obtain ⟨b0, b1, b2, bf⟩ := R3.out.var.box; obtain ⟨a0, a1, a2, a3, a4, a5⟩ := R3.out.act; obtain ⟨f0, f1, f2⟩ := R3.out.bef; obtain ⟨t0, t1, t2, _⟩ := VT3.out.box; rw [HT0.out] at t0; rw [HT1.out] at t1)
              | fail)
            have HX : Hid (Ep w (World.three (W3.alloc (.cells #[.int .i64 ho, .int .i64 (S.epoch + 1), .int .i64 (now + d + tm)] 82)) w.heap.size (S.epoch + 1) S.quiet m2) (i + 1) T m2 (now + d)) := by
              have h1 := R3.out.var.set (h' := T) VT3.out.hs
              rw [HT0.out, HT1.out] at h1
              exact HE.out.next h1 (o3.out.fresh ((three_only _ _ _ _ _).mono (Nat.le_refl _) (Nat.le_refl _))) (by omega) (by omega) (by rw [HT0.out]; have := HE.out.e0; omega) (by rw [HT0.out]; have := HE.out.e1; omega) HNX.out.1 HNX.out.2
            unfold World.three at HX
            go_roundw
            case rel => exact ⟨i + 1, T, m2, now + d, by go_num, by omega, by omega, rfl, by rw [HT0.out], HX.out⟩
            case measure => simp [intOf]; omega
        · have hk1n : (kd == 1) = false := beq_eq_false_iff_ne.2 hk1
          by_cases hk2 : kd = 2
          · subst hk2
            rcases letL_cases S (now + d) pl ho eo with ⟨c, hc, HG'⟩ | ⟨HG', hu⟩
            · have HG := Lib.hid HG'
              obtain ⟨T, hT⟩ : ∃ T : LS, T = ⟨S.epoch, S.quiet, S.hs⟩ := ⟨_, rfl⟩
              have HTE := Lib.hid hT
              have hcn : (c == 0) = false := by rcases hc with rfl | rfl <;> rfl
              have hcn2 : decide (c = 0) = false := by rcases hc with rfl | rfl <;> rfl
              clear HG' hc hT
              go_wp2_with (first
                | (go_at_call 41; have HR := who_any _ S.epoch S.quiet (now + d) pl m _ V0.out.hs HK.out; unfold lval at HR; (with_reducible refine HR.mono ?_); clear HR; unfold Whoed; rw [HW.out]; dsimp only [Option.getD, Option.isSome, tripE]; rintro e W1 ⟨rfl, ho1⟩; have R1 := Lib.hid (rd_start (x := 0) (y := 0) (z := 0) V0.out ho1); have o1 := Lib.hid (((HE.out.only.alloc _).then ho1 (Nat.le_trans HE.out.only.size (by simp))).alloc (.cells #[.int .i64 0, .int .i64 0, .int .i64 0] 82)); clear ho1 b0 b1 b2; obtain ⟨b0, b1, b2, _⟩ := R1.out.var.box; obtain ⟨a0, a1, a2, a3, a4, a5⟩ := R1.out.act; obtain ⟨f0, f1, f2⟩ := R1.out.bef)
                | (go_at_call 36; have HR := letL_any _ (lval S.epoch S.quiet m) S (now + d) pl ho eo R1.out.var.is HK.out; unfold lval at HR; (with_reducible refine HR.mono ?_); clear HR; rw [HG.out]; rintro e W2 ⟨v2, rfl, ⟨m2, rfl, x1'⟩, ho2⟩; have R2 := Lib.hid (R1.out.kept (ho2.alloc (.cells #[.int .i64 S.epoch, .int .i64 S.quiet, .map m2] 57))); have VT : Hid (LVar (W2.alloc (.cells #[.int .i64 S.epoch, .int .i64 S.quiet, .map m2] 57)) W2.heap.size T m2) := Lib.hid (by rw [HTE.out]; exact LVar.new (h := ⟨S.epoch, S.quiet, S.hs⟩) x1'); have o2 := Lib.hid ((o1.out.then ho2 o1.out.size).alloc (.cells #[.int .i64 S.epoch, .int .i64 S.quiet, .map m2] 57)); clear ho2 x1'; clear b0 b1 b2 a0 a1 a2 a3 a4 a5 f0 f1 f2; obtain ⟨b0, b1, b2, bf⟩ := R2.out.var.box; obtain ⟨a0, a1, a2, a3, a4, a5⟩ := R2.out.act; obtain ⟨f0, f1, f2⟩ := R2.out.bef; unfold lval; dsimp only)
                | fail)
              go_quiet (fail)
              go_wp2
              have HX : Hid (Ep w (World.three ((W2.alloc (.cells #[.int .i64 S.epoch, .int .i64 S.quiet, .map m2] 57)).drewN nq) w.heap.size S.epoch S.quiet m2) (i + 1) T m2 (now + d)) := by
                have hd : Only (W2.alloc (.cells #[.int .i64 S.epoch, .int .i64 S.quiet, .map m2] 57)).heap.size (W2.alloc (.cells #[.int .i64 S.epoch, .int .i64 S.quiet, .map m2] 57)).heap.size (W2.alloc (.cells #[.int .i64 S.epoch, .int .i64 S.quiet, .map m2] 57)) ((W2.alloc (.cells #[.int .i64 S.epoch, .int .i64 S.quiet, .map m2] 57)).drewN nq) := (Only.refl _ _ _).drewN nq
                have h1 := (R2.out.kept hd).var.set (h' := T) (VT.out.kept hd).hs
                have h2 : T.epoch = S.epoch := by rw [HTE.out]
                have h3 : T.quiet = S.quiet := by rw [HTE.out]
                rw [h2, h3] at h1
                refine HE.out.next h1 ((o2.out.then hd o2.out.size).fresh ((three_only _ _ _ _ _).mono (Nat.le_refl _) (Nat.le_refl _))) (by omega) (by omega) (by rw [h2]; exact HE.out.e0) (by rw [h2]; have := HE.out.e1; omega) ?_ ?_
                · rw [HTE.out]; exact HE.out.up
                · rw [HTE.out]; have h6 := HE.out.len; simp only; omega
              unfold World.three at HX
              go_roundw
              case rel => exact ⟨i + 1, T, m2, now + d, by go_num, by omega, by omega, rfl, by rw [HTE.out], HX.out⟩
              case measure => simp [intOf]; omega
            · obtain ⟨u, hu⟩ := hu
              rw [HW.out] at hu
              cases hu
          · have hk2n : (kd == 2) = false := beq_eq_false_iff_ne.2 hk2
            by_cases hk3 : kd = 3
            · subst hk3
              go_wp2_with (first
                | (go_at_call 41; have HR := who_any _ S.epoch S.quiet (now + d) pl m _ V0.out.hs HK.out; unfold lval at HR; (with_reducible refine HR.mono ?_); clear HR; unfold Whoed; rw [HW.out]; dsimp only [Option.getD, Option.isSome, tripE]; rintro e W1 ⟨rfl, ho1⟩; have R1 := Lib.hid (rd_start (x := 0) (y := 0) (z := 0) V0.out ho1); have o1 := Lib.hid (((HE.out.only.alloc _).then ho1 (Nat.le_trans HE.out.only.size (by simp))).alloc (.cells #[.int .i64 0, .int .i64 0, .int .i64 0] 82)); clear ho1 b0 b1 b2; obtain ⟨b0, b1, b2, _⟩ := R1.out.var.box; obtain ⟨a0, a1, a2, a3, a4, a5⟩ := R1.out.act; obtain ⟨f0, f1, f2⟩ := R1.out.bef)
                | (go_at_call 33; have HR := restart_any (W1.alloc (.cells #[.int .i64 0, .int .i64 0, .int .i64 0] 82)) S.epoch S.quiet (now + d) tm m; unfold lval at HR; (with_reducible refine HR.mono ?_); clear HR; rintro e W2 ⟨rfl, ho2⟩; have R2 := Lib.hid (R1.out.kept ho2); have o2 := Lib.hid (o1.out.then ho2 o1.out.size); have VX' := R2.out.var.set (h' := ⟨S.epoch, quietL (now + d) tm, []⟩) (n := none) rfl; have oX' := o2.out.fresh ((three_only W2 w.heap.size S.epoch (quietL (now + d) tm) none).mono (Nat.le_refl _) (Nat.le_refl _)); unfold World.three at VX' oX'; dsimp only at VX' oX'; have VX := Lib.hid VX'; have oX := Lib.hid oX'; clear VX' oX'; clear ho2 b0 b1 b2 a0 a1 a2 a3 a4 a5 f0 f1 f2; obtain ⟨b0, b1, b2, bf⟩ := R2.out.var.box; have c0 := VX.out.box.c0; have c1 := VX.out.box.c1; have c2 := VX.out.box.c2; dsimp only at c0 c1 c2)
                | (go_at_call 35; go_loud ((with_reducible refine Calls.mono (count_agg _ S.epoch (quietL (now + d) tm) (now + d) none [] (mapis_none _) (by decide)) ?_); rintro e W5 ⟨rfl, ho5⟩; have VX5 := Lib.hid (VX.out.kept ho5); have oX5 := Lib.hid (oX.out.then ho5 oX.out.size); clear ho5; obtain ⟨g0, g1, g2, gf⟩ := VX5.out.box; dsimp only at g0 g1))
                | fail)
              go_roundw
              case rel => exact ⟨i + 1, ⟨S.epoch, quietL (now + d) tm, []⟩, none, now + d, by go_num, by omega, by omega, rfl, rfl, HE.out.next VX5.out oX5.out (by omega) (by omega) HE.out.e0 (by have := HE.out.e1; simp only; omega) List.Pairwise.nil (Nat.zero_le _)⟩
              case measure => simp [intOf]; omega
            · have hk3n : (kd == 3) = false := beq_eq_false_iff_ne.2 hk3
              go_wp2_with (first
                | (go_at_call 41; have HR := who_any _ S.epoch S.quiet (now + d) pl m _ V0.out.hs HK.out; unfold lval at HR; (with_reducible refine HR.mono ?_); clear HR; unfold Whoed; rw [HW.out]; dsimp only [Option.getD, Option.isSome, tripE]; rintro e W1 ⟨rfl, ho1⟩; have R1 := Lib.hid (rd_start (x := 0) (y := 0) (z := 0) V0.out ho1); have o1 := Lib.hid (((HE.out.only.alloc _).then ho1 (Nat.le_trans HE.out.only.size (by simp))).alloc (.cells #[.int .i64 0, .int .i64 0, .int .i64 0] 82)); clear ho1 b0 b1 b2; obtain ⟨b0, b1, b2, _⟩ := R1.out.var.box; obtain ⟨a0, a1, a2, a3, a4, a5⟩ := R1.out.act; obtain ⟨f0, f1, f2⟩ := R1.out.bef)
                | fail)
              go_roundw
              case rel => exact ⟨i + 1, S, m, now + d, by go_num, by omega, by omega, rfl, rfl, HE.out.step R1.out.var o1.out (by omega) (by omega)⟩
              case measure => simp [intOf]; omega

      | some y =>
        obtain ⟨y0, y1, y2⟩ := y
        -- some
        have HW : Hid (whoL S.hs (now + d) pl = some (y0, y1, y2)) := Lib.hid hw
        clear hw
        by_cases hk1 : kd = 1
        · subst hk1
          rcases HGC.out tm pl ho with ⟨c, hc, HG'⟩ | ⟨HG', hto, hqo, heo, hwo⟩
          · have HG := Lib.hid HG'
            have hcn : (c != 0) = true := by rcases hc with rfl | rfl | rfl | rfl <;> rfl
            have hcn2 : decide (c = 0) = false := by rcases hc with rfl | rfl | rfl | rfl <;> rfl
            clear HG' hc
            go_wp2_with (first
              | (go_at_call 41; have HR := who_any _ S.epoch S.quiet (now + d) pl m _ V0.out.hs HK.out; unfold lval at HR; (with_reducible refine HR.mono ?_); clear HR; unfold Whoed; rw [HW.out]; dsimp only [Option.getD, Option.isSome, tripE]; rintro e W1 ⟨rfl, ho1⟩; have R1 := Lib.hid (rd_start (x := y0) (y := y1) (z := y2) V0.out ho1); have o1 := Lib.hid (((HE.out.only.alloc _).then ho1 (Nat.le_trans HE.out.only.size (by simp))).alloc (.cells #[.int .i64 y0, .int .i64 y1, .int .i64 y2] 82)); clear ho1 b0 b1 b2; obtain ⟨b0, b1, b2, _⟩ := R1.out.var.box; obtain ⟨a0, a1, a2, a3, a4, a5⟩ := R1.out.act; obtain ⟨f0, f1, f2⟩ := R1.out.bef)
              | (go_at_call 34; have HR := grantL_any _ (lval S.epoch S.quiet m) S (now + d) tm pl ho R1.out.var.is HK.out HEP.out HFEW.out; unfold lval at HR; (with_reducible refine HR.mono ?_); clear HR; rw [HG.out]; rintro e W2 ⟨v2, rfl, ⟨m2, rfl, x1'⟩, ho2⟩; have R2 := Lib.hid (R1.out.kept (ho2.alloc (.cells #[.int .i64 S.epoch, .int .i64 S.quiet, .map m2] 57))); have o2 := Lib.hid ((o1.out.then ho2 o1.out.size).alloc (.cells #[.int .i64 S.epoch, .int .i64 S.quiet, .map m2] 57)); clear ho2 x1'; clear b0 b1 b2 a0 a1 a2 a3 a4 a5 f0 f1 f2; obtain ⟨b0, b1, b2, bf⟩ := R2.out.var.box; obtain ⟨a0, a1, a2, a3, a4, a5⟩ := R2.out.act; obtain ⟨f0, f1, f2⟩ := R2.out.bef; unfold lval)
              | fail)
            go_roundw
            case rel => exact ⟨i + 1, S, m, now + d, by go_num, by omega, by omega, rfl, rfl, HE.out.step R2.out.var o2.out (by omega) (by omega)⟩
            case measure => simp [intOf]; omega
          · have HG := Lib.hid HG'
            have hto1 : 1 ≤ tm := hto.1
            have hto2 : tm ≤ 1048576 := hto.2.1
            obtain ⟨T, hT⟩ : ∃ T : LS, T = ⟨S.epoch + 1, S.quiet, mput (lasting S.hs (now + d)) pl (ho, S.epoch + 1, now + d + tm)⟩ := ⟨_, rfl⟩
            have HTE := Lib.hid hT
            have HT0 : Hid (T.epoch = S.epoch + 1) := Lib.hid (by rw [hT])
            have HT1 : Hid (T.quiet = S.quiet) := Lib.hid (by rw [hT])
            have HW2 : Hid (whoL T.hs (now + d) pl = some (ho, S.epoch + 1, now + d + tm)) := Lib.hid (by rw [hT]; simp only; rw [whoL_put, if_pos rfl, if_neg (by simp only; omega)])
            have HNX : Hid (Rising T.hs ∧ T.hs.length ≤ i + 1) := Lib.hid (by
              rw [hT]
              refine ⟨mput_rising (lasting_rising HE.out.up _) _ _, ?_⟩
              have h1 := mput_len (lasting S.hs (now + d)) pl (ho, S.epoch + 1, now + d + tm)
              have h2 := lasting_len S.hs (now + d)
              have h3 := HE.out.len
              simp only
              omega)
            have hyo : y0 = ho := hwo _ HW.out
            subst hyo
            have hyy : (y0 != y0) = false := by simp
            have hle : decide (S.epoch + 1 ≤ S.epoch) = false := decide_eq_false (by omega)
            have hgt : (if S.epoch < S.epoch + 1 then S.epoch + 1 else S.epoch) = S.epoch + 1 := if_pos (by omega)
            clear HG' hT hto hqo heo hwo
            go_wp2_with (first
              | (go_at_call 41; have HR := who_any _ S.epoch S.quiet (now + d) pl m _ V0.out.hs HK.out; unfold lval at HR; (with_reducible refine HR.mono ?_); clear HR; unfold Whoed; rw [HW.out]; dsimp only [Option.getD, Option.isSome, tripE]; rintro e W1 ⟨rfl, ho1⟩; have R1 := Lib.hid (rd_start (x := y0) (y := y1) (z := y2) V0.out ho1); have o1 := Lib.hid (((HE.out.only.alloc _).then ho1 (Nat.le_trans HE.out.only.size (by simp))).alloc (.cells #[.int .i64 y0, .int .i64 y1, .int .i64 y2] 82)); clear ho1 b0 b1 b2; obtain ⟨b0, b1, b2, _⟩ := R1.out.var.box; obtain ⟨a0, a1, a2, a3, a4, a5⟩ := R1.out.act; obtain ⟨f0, f1, f2⟩ := R1.out.bef)
              | (go_at_call 34; have HR := grantL_any _ (lval S.epoch S.quiet m) S (now + d) tm pl y0 R1.out.var.is HK.out HEP.out HFEW.out; unfold lval at HR; (with_reducible refine HR.mono ?_); clear HR; rw [HG.out]; rintro e W2 ⟨v2, rfl, ⟨m2, rfl, x1'⟩, ho2⟩; have R2 := Lib.hid (R1.out.kept (ho2.alloc (.cells #[.int .i64 (S.epoch + 1), .int .i64 S.quiet, .map m2] 57))); have VT : Hid (LVar (W2.alloc (.cells #[.int .i64 (S.epoch + 1), .int .i64 S.quiet, .map m2] 57)) W2.heap.size T m2) := Lib.hid (by rw [HTE.out]; exact LVar.new (h := ⟨S.epoch + 1, S.quiet, mput (lasting S.hs (now + d)) pl (y0, S.epoch + 1, now + d + tm)⟩) x1'); have o2 := Lib.hid ((o1.out.then ho2 o1.out.size).alloc (.cells #[.int .i64 (S.epoch + 1), .int .i64 S.quiet, .map m2] 57)); clear ho2 x1'; clear b0 b1 b2 a0 a1 a2 a3 a4 a5 f0 f1 f2; obtain ⟨b0, b1, b2, bf⟩ := R2.out.var.box; obtain ⟨a0, a1, a2, a3, a4, a5⟩ := R2.out.act; obtain ⟨f0, f1, f2⟩ := R2.out.bef; unfold lval; dsimp only)
              | (go_at_call 41; have HR := who_any _ (S.epoch + 1) S.quiet (now + d) pl m2 _ VT.out.hs HK.out; unfold lval at HR; (with_reducible refine HR.mono ?_); clear HR; unfold Whoed; rw [HW2.out]; dsimp only [Option.getD, Option.isSome, tripE]; rintro e W3 ⟨rfl, ho3⟩; have R3 := Lib.hid (R2.out.kept (ho3.alloc (.cells #[.int .i64 y0, .int .i64 (S.epoch + 1), .int .i64 (now + d + tm)] 82))); have VT3 := Lib.hid (VT.out.kept (ho3.alloc (.cells #[.int .i64 y0, .int .i64 (S.epoch + 1), .int .i64 (now + d + tm)] 82))); have o3 := Lib.hid ((o2.out.then ho3 o2.out.size).alloc (.cells #[.int .i64 y0, .int .i64 (S.epoch + 1), .int .i64 (now + d + tm)] 82)); clear ho3; clear b0 b1 b2 a0 a1 a2 a3 a4 a5 f0 f1 f2; obtain ⟨b0, b1, b2, bf⟩ := R3.out.var.box; obtain ⟨a0, a1, a2, a3, a4, a5⟩ := R3.out.act; obtain ⟨f0, f1, f2⟩ := R3.out.bef; obtain ⟨t0, t1, t2, _⟩ := VT3.out.box; rw [HT0.out] at t0; rw [HT1.out] at t1)
              | fail)
            have HX : Hid (Ep w (World.three (W3.alloc (.cells #[.int .i64 y0, .int .i64 (S.epoch + 1), .int .i64 (now + d + tm)] 82)) w.heap.size (S.epoch + 1) S.quiet m2) (i + 1) T m2 (now + d)) := by
              have h1 := R3.out.var.set (h' := T) VT3.out.hs
              rw [HT0.out, HT1.out] at h1
              exact HE.out.next h1 (o3.out.fresh ((three_only _ _ _ _ _).mono (Nat.le_refl _) (Nat.le_refl _))) (by omega) (by omega) (by rw [HT0.out]; have := HE.out.e0; omega) (by rw [HT0.out]; have := HE.out.e1; omega) HNX.out.1 HNX.out.2
            unfold World.three at HX
            go_roundw
            case rel => exact ⟨i + 1, T, m2, now + d, by go_num, by omega, by omega, rfl, by rw [HT0.out], HX.out⟩
            case measure => simp [intOf]; omega
        · have hk1n : (kd == 1) = false := beq_eq_false_iff_ne.2 hk1
          by_cases hk2 : kd = 2
          · subst hk2
            rcases letL_cases S (now + d) pl ho eo with ⟨c, hc, HG'⟩ | ⟨HG', hu⟩
            · have HG := Lib.hid HG'
              obtain ⟨T, hT⟩ : ∃ T : LS, T = ⟨S.epoch, S.quiet, S.hs⟩ := ⟨_, rfl⟩
              have HTE := Lib.hid hT
              have hcn : (c == 0) = false := by rcases hc with rfl | rfl <;> rfl
              have hcn2 : decide (c = 0) = false := by rcases hc with rfl | rfl <;> rfl
              clear HG' hc hT
              go_wp2_with (first
                | (go_at_call 41; have HR := who_any _ S.epoch S.quiet (now + d) pl m _ V0.out.hs HK.out; unfold lval at HR; (with_reducible refine HR.mono ?_); clear HR; unfold Whoed; rw [HW.out]; dsimp only [Option.getD, Option.isSome, tripE]; rintro e W1 ⟨rfl, ho1⟩; have R1 := Lib.hid (rd_start (x := y0) (y := y1) (z := y2) V0.out ho1); have o1 := Lib.hid (((HE.out.only.alloc _).then ho1 (Nat.le_trans HE.out.only.size (by simp))).alloc (.cells #[.int .i64 y0, .int .i64 y1, .int .i64 y2] 82)); clear ho1 b0 b1 b2; obtain ⟨b0, b1, b2, _⟩ := R1.out.var.box; obtain ⟨a0, a1, a2, a3, a4, a5⟩ := R1.out.act; obtain ⟨f0, f1, f2⟩ := R1.out.bef)
                | (go_at_call 36; have HR := letL_any _ (lval S.epoch S.quiet m) S (now + d) pl ho eo R1.out.var.is HK.out; unfold lval at HR; (with_reducible refine HR.mono ?_); clear HR; rw [HG.out]; rintro e W2 ⟨v2, rfl, ⟨m2, rfl, x1'⟩, ho2⟩; have R2 := Lib.hid (R1.out.kept (ho2.alloc (.cells #[.int .i64 S.epoch, .int .i64 S.quiet, .map m2] 57))); have VT : Hid (LVar (W2.alloc (.cells #[.int .i64 S.epoch, .int .i64 S.quiet, .map m2] 57)) W2.heap.size T m2) := Lib.hid (by rw [HTE.out]; exact LVar.new (h := ⟨S.epoch, S.quiet, S.hs⟩) x1'); have o2 := Lib.hid ((o1.out.then ho2 o1.out.size).alloc (.cells #[.int .i64 S.epoch, .int .i64 S.quiet, .map m2] 57)); clear ho2 x1'; clear b0 b1 b2 a0 a1 a2 a3 a4 a5 f0 f1 f2; obtain ⟨b0, b1, b2, bf⟩ := R2.out.var.box; obtain ⟨a0, a1, a2, a3, a4, a5⟩ := R2.out.act; obtain ⟨f0, f1, f2⟩ := R2.out.bef; unfold lval; dsimp only)
                | fail)
              go_quiet (fail)
              go_wp2
              have HX : Hid (Ep w (World.three ((W2.alloc (.cells #[.int .i64 S.epoch, .int .i64 S.quiet, .map m2] 57)).drewN nq) w.heap.size S.epoch S.quiet m2) (i + 1) T m2 (now + d)) := by
                have hd : Only (W2.alloc (.cells #[.int .i64 S.epoch, .int .i64 S.quiet, .map m2] 57)).heap.size (W2.alloc (.cells #[.int .i64 S.epoch, .int .i64 S.quiet, .map m2] 57)).heap.size (W2.alloc (.cells #[.int .i64 S.epoch, .int .i64 S.quiet, .map m2] 57)) ((W2.alloc (.cells #[.int .i64 S.epoch, .int .i64 S.quiet, .map m2] 57)).drewN nq) := (Only.refl _ _ _).drewN nq
                have h1 := (R2.out.kept hd).var.set (h' := T) (VT.out.kept hd).hs
                have h2 : T.epoch = S.epoch := by rw [HTE.out]
                have h3 : T.quiet = S.quiet := by rw [HTE.out]
                rw [h2, h3] at h1
                refine HE.out.next h1 ((o2.out.then hd o2.out.size).fresh ((three_only _ _ _ _ _).mono (Nat.le_refl _) (Nat.le_refl _))) (by omega) (by omega) (by rw [h2]; exact HE.out.e0) (by rw [h2]; have := HE.out.e1; omega) ?_ ?_
                · rw [HTE.out]; exact HE.out.up
                · rw [HTE.out]; have h6 := HE.out.len; simp only; omega
              unfold World.three at HX
              go_roundw
              case rel => exact ⟨i + 1, T, m2, now + d, by go_num, by omega, by omega, rfl, by rw [HTE.out], HX.out⟩
              case measure => simp [intOf]; omega
            · obtain ⟨u, hu⟩ := hu
              rw [HW.out] at hu
              have hy0 : y0 = ho := by injection hu with hu; injection hu
              subst hy0
              have hyy : (y0 != y0) = false := by simp
              clear hu
              have HG := Lib.hid HG'
              obtain ⟨T, hT⟩ : ∃ T : LS, T = ⟨S.epoch, S.quiet, mdel (lasting S.hs (now + d)) pl⟩ := ⟨_, rfl⟩
              have HTE := Lib.hid hT
              have hcnt : (lasting T.hs (now + d)).length + 1 = (lasting S.hs (now + d)).length := by rw [hT]; exact count_let HE.out.up HW.out
              obtain ⟨nT, hnT⟩ : ∃ n, (lasting T.hs (now + d)).length = n := ⟨_, rfl⟩
              rw [hnT] at hcnt
              have HNT := Lib.hid hnT
              have HNS : Hid ((lasting S.hs (now + d)).length = nT + 1) := Lib.hid hcnt.symm
              have HFT : Hid (T.hs.length < 1000000) := Lib.hid (by rw [hT]; have h1 := mdel_len (lasting S.hs (now + d)) pl; have h2 := lasting_len S.hs (now + d); have h3 := HE.out.len; simp only; omega)
              have HFS : Hid (S.hs.length < 1000000) := Lib.hid (by have h3 := HE.out.len; omega)
              have hnt : (nT : Int) ≤ 1000000 := by have := HFEW.out; omega
              have hwn : ((nT : Int) != IntKind.i64.wrap (nT : Int)) = false := by rw [IntWalk.i64_in _ (by omega)]; simp
              clear HG' hT hcnt hnT
              go_wp2_with (first
                | (go_at_call 41; have HR := who_any _ S.epoch S.quiet (now + d) pl m _ V0.out.hs HK.out; unfold lval at HR; (with_reducible refine HR.mono ?_); clear HR; unfold Whoed; rw [HW.out]; dsimp only [Option.getD, Option.isSome, tripE]; rintro e W1 ⟨rfl, ho1⟩; have R1 := Lib.hid (rd_start (x := y0) (y := y1) (z := y2) V0.out ho1); have o1 := Lib.hid (((HE.out.only.alloc _).then ho1 (Nat.le_trans HE.out.only.size (by simp))).alloc (.cells #[.int .i64 y0, .int .i64 y1, .int .i64 y2] 82)); clear ho1 b0 b1 b2; obtain ⟨b0, b1, b2, _⟩ := R1.out.var.box; obtain ⟨a0, a1, a2, a3, a4, a5⟩ := R1.out.act; obtain ⟨f0, f1, f2⟩ := R1.out.bef)
                | (go_at_call 36; have HR := letL_any _ (lval S.epoch S.quiet m) S (now + d) pl y0 eo R1.out.var.is HK.out; unfold lval at HR; (with_reducible refine HR.mono ?_); clear HR; rw [HG.out]; rintro e W2 ⟨v2, rfl, ⟨m2, rfl, x1'⟩, ho2⟩; have R2 := Lib.hid (R1.out.kept (ho2.alloc (.cells #[.int .i64 S.epoch, .int .i64 S.quiet, .map m2] 57))); have VT : Hid (LVar (W2.alloc (.cells #[.int .i64 S.epoch, .int .i64 S.quiet, .map m2] 57)) W2.heap.size T m2) := Lib.hid (by rw [HTE.out]; exact LVar.new (h := ⟨S.epoch, S.quiet, mdel (lasting S.hs (now + d)) pl⟩) x1'); have o2 := Lib.hid ((o1.out.then ho2 o1.out.size).alloc (.cells #[.int .i64 S.epoch, .int .i64 S.quiet, .map m2] 57)); clear ho2 x1'; clear b0 b1 b2 a0 a1 a2 a3 a4 a5 f0 f1 f2; obtain ⟨b0, b1, b2, bf⟩ := R2.out.var.box; obtain ⟨a0, a1, a2, a3, a4, a5⟩ := R2.out.act; obtain ⟨f0, f1, f2⟩ := R2.out.bef; unfold lval; dsimp only)
                | fail)
              have P : Hid (∀ W, Only (W2.alloc (.cells #[.int .i64 S.epoch, .int .i64 S.quiet, .map m2] 57)).heap.size (W2.alloc (.cells #[.int .i64 S.epoch, .int .i64 S.quiet, .map m2] 57)).heap.size (W2.alloc (.cells #[.int .i64 S.epoch, .int .i64 S.quiet, .map m2] 57)) W → ((W.cell? ⟨W1.heap.size, 0, none⟩ = some (.int .i64 y0) ∧ W.cell? ⟨wr.heap.size, 4, none⟩ = some (.int .i64 y0)) ∧ (W.cell? ⟨w.heap.size, 0, none⟩ = some (.int .i64 S.epoch) ∧ W.cell? ⟨w.heap.size, 1, none⟩ = some (.int .i64 S.quiet) ∧ W.cell? ⟨w.heap.size, 2, none⟩ = some (.map m)) ∧ (W.cell? ⟨W2.heap.size, 0, none⟩ = some (.int .i64 S.epoch) ∧ W.cell? ⟨W2.heap.size, 1, none⟩ = some (.int .i64 S.quiet) ∧ W.cell? ⟨W2.heap.size, 2, none⟩ = some (.map m2))) ∧ MapIs tripE W m S.hs ∧ MapIs tripE W m2 T.hs) := Lib.hid (fun W oW => by
                have r := R2.out.kept oW
                have v := VT.out.kept oW
                have t0 := v.box.c0
                have t1 := v.box.c1
                rw [HTE.out] at t0 t1
                exact ⟨⟨⟨r.bef.1, r.act.c4⟩, ⟨r.var.box.c0, r.var.box.c1, r.var.box.c2⟩, t0, t1, v.box.c2⟩, r.var.hs, v.hs⟩)
              go_region_held3 (fun W => (W.cell? ⟨W1.heap.size, 0, none⟩ = some (.int .i64 y0) ∧ W.cell? ⟨wr.heap.size, 4, none⟩ = some (.int .i64 y0)) ∧ (W.cell? ⟨w.heap.size, 0, none⟩ = some (.int .i64 S.epoch) ∧ W.cell? ⟨w.heap.size, 1, none⟩ = some (.int .i64 S.quiet) ∧ W.cell? ⟨w.heap.size, 2, none⟩ = some (.map m)) ∧ (W.cell? ⟨W2.heap.size, 0, none⟩ = some (.int .i64 S.epoch) ∧ W.cell? ⟨W2.heap.size, 1, none⟩ = some (.int .i64 S.quiet) ∧ W.cell? ⟨W2.heap.size, 2, none⟩ = some (.map m2))) (go_keep)
                (first
                  | (go_at_call 35; ((with_reducible refine Calls.mono (count_from (X := (W2.alloc (.cells #[.int .i64 S.epoch, .int .i64 S.quiet, .map m2] 57))) ?_ S.epoch S.quiet (now + d) m2 T.hs (fun W oW => (P.out W oW).2.2) HFT.out) ?_); (focus (repeat (first | exact Only.refl _ _ _ | exact hoc.out | apply Only.drew))); rw [HNT.out]; rintro e W5 ⟨rfl, hoc2⟩; obtain ⟨⟨p0, p1⟩, ⟨p2, p3, p4⟩, p5, p6, p7⟩ := (P.out _ hoc2).1; have hoc := Lib.hid hoc2; clear hoc2))
                  | (go_at_call 35; ((with_reducible refine Calls.mono (count_from (X := (W2.alloc (.cells #[.int .i64 S.epoch, .int .i64 S.quiet, .map m2] 57))) ?_ S.epoch S.quiet (now + d) m S.hs (fun W oW => (P.out W oW).2.1) HFS.out) ?_); (focus (repeat (first | exact Only.refl _ _ _ | exact hoc.out | apply Only.drew))); rw [HNS.out]; rintro e W5 ⟨rfl, hoc2⟩; obtain ⟨⟨p0, p1⟩, ⟨p2, p3, p4⟩, p5, p6, p7⟩ := (P.out _ hoc2).1; have hoc := Lib.hid hoc2; clear hoc2)))
              have hx := R2.out.kept hoc.out
              have e0 := hx.var.box.fr 0
              have e1 := hx.var.box.fr 1
              have e2 := hx.var.box.fr 2
              clear hx
              go_wp2
              go_roundw
              have HX : Hid (Ep w (World.three W5 w.heap.size S.epoch S.quiet m2) (i + 1) T m2 (now + d)) := by
                have h1 := (R2.out.kept hoc.out).var.set (h' := T) (VT.out.kept hoc.out).hs
                have h2 : T.epoch = S.epoch := by rw [HTE.out]
                have h3 : T.quiet = S.quiet := by rw [HTE.out]
                rw [h2, h3] at h1
                refine HE.out.next h1 ((o2.out.then hoc.out o2.out.size).fresh ((three_only _ _ _ _ _).mono (Nat.le_refl _) (Nat.le_refl _))) (by omega) (by omega) (by rw [h2]; exact HE.out.e0) (by rw [h2]; have := HE.out.e1; omega) ?_ ?_
                · rw [HTE.out]; exact mdel_rising (lasting_rising HE.out.up _) _
                · rw [HTE.out]; have h4 := mdel_len (lasting S.hs (now + d)) pl; have h5 := lasting_len S.hs (now + d); have h6 := HE.out.len; simp only; omega
              unfold World.three at HX
              case rel => exact ⟨i + 1, T, m2, now + d, by go_num, by omega, by omega, rfl, by rw [HTE.out], HX.out⟩
              case measure => simp [intOf]; omega
          · have hk2n : (kd == 2) = false := beq_eq_false_iff_ne.2 hk2
            by_cases hk3 : kd = 3
            · subst hk3
              go_wp2_with (first
                | (go_at_call 41; have HR := who_any _ S.epoch S.quiet (now + d) pl m _ V0.out.hs HK.out; unfold lval at HR; (with_reducible refine HR.mono ?_); clear HR; unfold Whoed; rw [HW.out]; dsimp only [Option.getD, Option.isSome, tripE]; rintro e W1 ⟨rfl, ho1⟩; have R1 := Lib.hid (rd_start (x := y0) (y := y1) (z := y2) V0.out ho1); have o1 := Lib.hid (((HE.out.only.alloc _).then ho1 (Nat.le_trans HE.out.only.size (by simp))).alloc (.cells #[.int .i64 y0, .int .i64 y1, .int .i64 y2] 82)); clear ho1 b0 b1 b2; obtain ⟨b0, b1, b2, _⟩ := R1.out.var.box; obtain ⟨a0, a1, a2, a3, a4, a5⟩ := R1.out.act; obtain ⟨f0, f1, f2⟩ := R1.out.bef)
                | (go_at_call 33; have HR := restart_any (W1.alloc (.cells #[.int .i64 y0, .int .i64 y1, .int .i64 y2] 82)) S.epoch S.quiet (now + d) tm m; unfold lval at HR; (with_reducible refine HR.mono ?_); clear HR; rintro e W2 ⟨rfl, ho2⟩; have R2 := Lib.hid (R1.out.kept ho2); have o2 := Lib.hid (o1.out.then ho2 o1.out.size); have VX' := R2.out.var.set (h' := ⟨S.epoch, quietL (now + d) tm, []⟩) (n := none) rfl; have oX' := o2.out.fresh ((three_only W2 w.heap.size S.epoch (quietL (now + d) tm) none).mono (Nat.le_refl _) (Nat.le_refl _)); unfold World.three at VX' oX'; dsimp only at VX' oX'; have VX := Lib.hid VX'; have oX := Lib.hid oX'; clear VX' oX'; clear ho2 b0 b1 b2 a0 a1 a2 a3 a4 a5 f0 f1 f2; obtain ⟨b0, b1, b2, bf⟩ := R2.out.var.box; have c0 := VX.out.box.c0; have c1 := VX.out.box.c1; have c2 := VX.out.box.c2; dsimp only at c0 c1 c2)
                | (go_at_call 35; go_loud ((with_reducible refine Calls.mono (count_agg _ S.epoch (quietL (now + d) tm) (now + d) none [] (mapis_none _) (by decide)) ?_); rintro e W5 ⟨rfl, ho5⟩; have VX5 := Lib.hid (VX.out.kept ho5); have oX5 := Lib.hid (oX.out.then ho5 oX.out.size); clear ho5; obtain ⟨g0, g1, g2, gf⟩ := VX5.out.box; dsimp only at g0 g1))
                | fail)
              go_roundw
              case rel => exact ⟨i + 1, ⟨S.epoch, quietL (now + d) tm, []⟩, none, now + d, by go_num, by omega, by omega, rfl, rfl, HE.out.next VX5.out oX5.out (by omega) (by omega) HE.out.e0 (by have := HE.out.e1; simp only; omega) List.Pairwise.nil (Nat.zero_le _)⟩
              case measure => simp [intOf]; omega
            · have hk3n : (kd == 3) = false := beq_eq_false_iff_ne.2 hk3
              go_wp2_with (first
                | (go_at_call 41; have HR := who_any _ S.epoch S.quiet (now + d) pl m _ V0.out.hs HK.out; unfold lval at HR; (with_reducible refine HR.mono ?_); clear HR; unfold Whoed; rw [HW.out]; dsimp only [Option.getD, Option.isSome, tripE]; rintro e W1 ⟨rfl, ho1⟩; have R1 := Lib.hid (rd_start (x := y0) (y := y1) (z := y2) V0.out ho1); have o1 := Lib.hid (((HE.out.only.alloc _).then ho1 (Nat.le_trans HE.out.only.size (by simp))).alloc (.cells #[.int .i64 y0, .int .i64 y1, .int .i64 y2] 82)); clear ho1 b0 b1 b2; obtain ⟨b0, b1, b2, _⟩ := R1.out.var.box; obtain ⟨a0, a1, a2, a3, a4, a5⟩ := R1.out.act; obtain ⟨f0, f1, f2⟩ := R1.out.bef)
                | fail)
              go_roundw
              case rel => exact ⟨i + 1, S, m, now + d, by go_num, by omega, by omega, rfl, rfl, HE.out.step R1.out.var o1.out (by omega) (by omega)⟩
              case measure => simp [intOf]; omega

    · have HL := Lib.hid hep.only
      clear hep
      by_cases h1 : i < len
      · have h2 : ¬ ((i : Int) < 40) := by omega
        go_wp2_with (go_at_call 32; refine (awake18 _).mono ?_; rintro e W4 ⟨rfl, ho'⟩)
        go_ret
        exact ⟨rfl, HL.out.then ho' HL.out.size⟩
      · have h2 : ¬ ((i : Int) < (len : Int)) := by omega
        go_wp2_with (go_at_call 32; refine (awake18 _).mono ?_; rintro e W4 ⟨rfl, ho'⟩)
        go_ret
        exact ⟨rfl, HL.out.then ho' HL.out.size⟩
end Go.Proofs.Ytefllgpehhlkoaa
