/-
  alike (tillerlaw19): two states that are the same show the same.
-/
import Derived.Test.YtefllgpehhlkoaaSim
namespace Go.Proofs.Ytefllgpehhlkoaa
open Go.RowKit Go.Maps
set_option linter.unusedVariables false

structure Ah (w W : World) (life count : Int) (m1 m2 : Option Nat) (v1 v2 : Value) : Prop where
  s : Box W w.heap.size life count m1 m2
  x : RBox W (w.heap.size + 1) (.int .i64 life) (.int .i64 count) v1 v2
  only : Only w.heap.size w.heap.size w W
  size : w.heap.size + 2 ≤ W.heap.size
theorem Ah.kept {w W W' : World} {life count : Int} {m1 m2 : Option Nat} {v1 v2 : Value} (k : Ah w W life count m1 m2 v1 v2) (o : Only W.heap.size W.heap.size W W') : Ah w W' life count m1 m2 v1 v2 :=
  have hz := k.size
  ⟨k.s.kept o (by omega) (.inl (by omega)), k.x.kept o (by omega) (.inl (by omega)), k.only.then o (by omega), Nat.le_trans k.size o.size⟩
def AhRel (w : World) (life count : Int) (m1 m2 : Option Nat) (v1 v2 : Value) (ls : List Int) (kv : Value) (W : World) : Prop :=
  ∃ k : Nat, kv = .int .i64 k ∧ k ≤ ls.length ∧ Ah w W life count m1 m2 v1 v2

set_option maxRecDepth 100000 in
set_option maxHeartbeats 4000000 in
theorem alikeH_any (w : World) (life count now : Int) (m1 m2 : Option Nat) (v1 v2 : Value) (ws hs xs ys : Pairs) (hm1 : MapIs pairE w m1 ws) (hm2 : MapIs pairE w m2 hs) (hv1 : ReadS layW w v1 xs) (hv2 : ReadS layH w v2 ys) (hw : Sim ws xs) (hh : Sim hs ys)
    (pa : Option Addr) (pc : Nat) (ls : List Int) (hp : Sl w w.heap.size pa pc ls) (hpl : ls.length ≤ 10000) (hpk : ∀ i, i < ls.length → (Lit.int .i64 (nth ls i)).wf = true) :
    Calls Try.prog 49 #[.agg #[.int .i64 life, .int .i64 count, .map m1, .map m2], .agg #[.int .i64 life, .int .i64 count, v1, v2], .int .i64 now, .slice pa ls.length pc] w fun e w' => e = .returned (.bool true) ∧ Only w.heap.size w.heap.size w w' := by
  have hO : Hid (Only w.heap.size w.heap.size w w) := Lib.hid (Only.refl _ _ _)
  have HM1 := Lib.hid hm1
  have HM2 := Lib.hid hm2
  have HV1 := Lib.hid hv1
  have HV2 := Lib.hid hv2
  have HP := Lib.hid hp
  have HPK := Lib.hid hpk
  have HSW := Lib.hid hw
  have HSH := Lib.hid hh
  obtain ⟨a1, c1, rfl, hl1, hl2, h3⟩ := hv1
  obtain ⟨a2, c2, rfl, hl1', hl2', h3'⟩ := hv2
  have hple := hp.le
  have L1 := (mapIs_out hm1 (show Out w ((w.alloc (.cells #[.int .i64 life, .int .i64 count, .map m1, .map m2] 41)).alloc (.cells #[.int .i64 life, .int .i64 count, .slice a1 xs.length c1, .slice a2 ys.length c2] 90)) from (hO.out.alloc _).alloc _)).len Try.underlying38 3
  have L2 := (mapIs_out hm2 (show Out w ((w.alloc (.cells #[.int .i64 life, .int .i64 count, .map m1, .map m2] 41)).alloc (.cells #[.int .i64 life, .int .i64 count, .slice a1 xs.length c1, .slice a2 ys.length c2] 90)) from (hO.out.alloc _).alloc _)).len Try.underlying39 3
  rw [hw.len] at L1
  rw [hh.len] at L2
  clear h3 h3' hm1 hm2 hp hpk hw hh
  go_enter Try.func49, Try.ntmps49
  go_wp2_with fail
  go_loopw [49] (fun kv W => AhRel w life count m1 m2 (.slice a1 xs.length c1) (.slice a2 ys.length c2) ls kv W) (fun kv _ => ls.length - (intOf kv).toNat)
  case atStart =>
    exact ⟨0, rfl, Nat.zero_le _, Box.of ((low_at _ _ _ (by simp)).trans (top_at _ _ _ rfl)), RBox.of (top_at _ _ _ (by simp)), (hO.out.alloc _).alloc _, by simp⟩
  case round =>
    clear L1 L2
    obtain ⟨k, rfl, hk, hA⟩ := hrel
    have HA := Lib.hid hA
    have hsz2 := hA.size
    obtain ⟨s0, s1, s2, s3, _⟩ := hA.s
    obtain ⟨x0, x1, x2, x3, _⟩ := hA.x
    clear hA
    by_cases hkl : k < ls.length
    · obtain ⟨b, o, rfl, hb, hcell⟩ := HP.out.row.addr (by omega)
      have hc : wr.cell? ⟨b, o + k, none⟩ = some (.int .i64 (nth ls k)) := (HA.out.only.cell (by exact hb) (.inl (by exact hb))).trans (hcell k hkl)
      have HWF := Lib.hid (HPK.out k hkl)
      clear hcell
      generalize nth ls k = pl at *
      cases hgw : mget ws pl with
      | none =>
        cases hgh : mget hs pl with
        | none =>
          have HFW : Hid (findK xs pl = none) := Lib.hid (by rw [findK_get, ← HSW.out.get, hgw]; rfl)
          have HFH : Hid (findK ys pl = none) := Lib.hid (by rw [findK_get, ← HSH.out.get, hgh]; rfl)
          have hbel : believe hs now pl = (0, false) := by unfold believe; rw [hgh]
          have HC28 := Lib.hid (fun V hX => bel_from (m1 := m1) (li := life) (co := count) (show Out w V from hX) HM2.out HWF.out hbel)
          have HLW := Lib.hid (fun V hX => (mapIs_out HM1.out (show Out w V from hX)).look1 Try.underlying38 (zero119 _) pl HWF.out)
          have HLH := Lib.hid (fun V hX => (mapIs_out HM2.out (show Out w V from hX)).look1 Try.underlying39 (zero122 _) pl HWF.out)
          rw [hgw] at HLW
          rw [hgh] at HLH
          dsimp only [Option.getD, pairE] at HLW HLH
          clear hbel hgw hgh
          go_wp2_with (first
            | (go_at_call 61; refine (wanted_any _ life count pl _ _ xs (HV1.out.kept HA.out.only)).mono ?_; unfold Found3; rw [HFW.out]; dsimp only [Option.getD, Option.isSome, rec3, zrec3]; rintro e W2 ⟨rfl, ho2⟩; have HA2 := Lib.hid (HA.out.kept (ho2.alloc (.cells #[.int .i64 0, .int .i64 0, .int .i64 0] 133))); have hz2 := HA2.out.size; have HT2 := Lib.hid (T3.of (top_at W2 (.cells #[.int .i64 0, .int .i64 0, .int .i64 0] 133) _ rfl)); clear ho2 s0 s1 s2 s3 x0 x1 x2 x3; obtain ⟨s0, s1, s2, s3, _⟩ := HA2.out.s; obtain ⟨x0, x1, x2, x3, _⟩ := HA2.out.x)
            | (go_at_call 62; refine (had_any _ life count pl _ _ ys (HV2.out.kept HA2.out.only)).mono ?_; unfold Found3; rw [HFH.out]; dsimp only [Option.getD, Option.isSome, rec3, zrec3]; rintro e W3 ⟨rfl, ho3⟩; have HA3 := Lib.hid (HA2.out.kept (ho3.alloc (.cells #[.int .i64 0, .int .i64 0, .int .i64 0] 137))); have hz3 := HA3.out.size; have HT3 := Lib.hid (HT2.out.kept (ho3.alloc (.cells #[.int .i64 0, .int .i64 0, .int .i64 0] 137)) (by simp) (.inl (by simp))); have HU3 := Lib.hid (T3.of (top_at W3 (.cells #[.int .i64 0, .int .i64 0, .int .i64 0] 137) _ rfl)); have HZ3 : Hid (W2.heap.size < W3.heap.size) := Lib.hid (by have h := ho3.size; simp at h; omega); clear ho3 s0 s1 s2 s3 x0 x1 x2 x3; obtain ⟨s0, s1, s2, s3, _⟩ := HA3.out.s; obtain ⟨x0, x1, x2, x3, _⟩ := HA3.out.x)
            | (go_at_call 28; (with_reducible refine (HC28.out _ HA3.out.only).mono ?_); rintro e W4 ⟨rfl, hX4, ho4⟩; have HA4 := Lib.hid (HA3.out.kept ho4); have hz4 := HA4.out.size; have hl1 := HLW.out _ hX4; have hl2 := HLH.out _ hX4; have hzz := HZ3.out; have t4 := HT3.out.kept ho4 (by simp; omega) (.inl (by simp; omega)); have u4 := HU3.out.kept ho4 (by simp) (.inl (by simp)); clear ho4 hX4 hzz s0 s1 s2 s3 x0 x1 x2 x3; obtain ⟨s0, s1, s2, s3, _⟩ := HA4.out.s; obtain ⟨x0, x1, x2, x3, _⟩ := HA4.out.x; obtain ⟨t0, t1, t2, _⟩ := t4; obtain ⟨u0, u1, u2, _⟩ := u4)
            | fail)
          go_roundw
          case rel => exact ⟨k + 1, by go_num, hkl, HA4.out⟩
          case measure => simp [intOf]; omega
        | some hx =>
          obtain ⟨h0, h1⟩ := hx
          by_cases hn : h1 ≤ now
          · skip
            have hn2 : decide (now < h1) = false := decide_eq_false (by omega)
            have HFW : Hid (findK xs pl = none) := Lib.hid (by rw [findK_get, ← HSW.out.get, hgw]; rfl)
            have HFH : Hid (findK ys pl = some (pl, (h0, h1))) := Lib.hid (by rw [findK_get, ← HSH.out.get, hgh]; rfl)
            have hbel : believe hs now pl = (0, false) := by unfold believe; rw [hgh]; dsimp only; rw [if_pos hn]
            have HC28 := Lib.hid (fun V hX => bel_from (m1 := m1) (li := life) (co := count) (show Out w V from hX) HM2.out HWF.out hbel)
            have HLW := Lib.hid (fun V hX => (mapIs_out HM1.out (show Out w V from hX)).look1 Try.underlying38 (zero119 _) pl HWF.out)
            have HLH := Lib.hid (fun V hX => (mapIs_out HM2.out (show Out w V from hX)).look1 Try.underlying39 (zero122 _) pl HWF.out)
            rw [hgw] at HLW
            rw [hgh] at HLH
            dsimp only [Option.getD, pairE] at HLW HLH
            clear hbel hgw hgh hn
            go_wp2_with (first
              | (go_at_call 61; refine (wanted_any _ life count pl _ _ xs (HV1.out.kept HA.out.only)).mono ?_; unfold Found3; rw [HFW.out]; dsimp only [Option.getD, Option.isSome, rec3, zrec3]; rintro e W2 ⟨rfl, ho2⟩; have HA2 := Lib.hid (HA.out.kept (ho2.alloc (.cells #[.int .i64 0, .int .i64 0, .int .i64 0] 133))); have hz2 := HA2.out.size; have HT2 := Lib.hid (T3.of (top_at W2 (.cells #[.int .i64 0, .int .i64 0, .int .i64 0] 133) _ rfl)); clear ho2 s0 s1 s2 s3 x0 x1 x2 x3; obtain ⟨s0, s1, s2, s3, _⟩ := HA2.out.s; obtain ⟨x0, x1, x2, x3, _⟩ := HA2.out.x)
              | (go_at_call 62; refine (had_any _ life count pl _ _ ys (HV2.out.kept HA2.out.only)).mono ?_; unfold Found3; rw [HFH.out]; dsimp only [Option.getD, Option.isSome, rec3, zrec3]; rintro e W3 ⟨rfl, ho3⟩; have HA3 := Lib.hid (HA2.out.kept (ho3.alloc (.cells #[.int .i64 pl, .int .i64 h0, .int .i64 h1] 137))); have hz3 := HA3.out.size; have HT3 := Lib.hid (HT2.out.kept (ho3.alloc (.cells #[.int .i64 pl, .int .i64 h0, .int .i64 h1] 137)) (by simp) (.inl (by simp))); have HU3 := Lib.hid (T3.of (top_at W3 (.cells #[.int .i64 pl, .int .i64 h0, .int .i64 h1] 137) _ rfl)); have HZ3 : Hid (W2.heap.size < W3.heap.size) := Lib.hid (by have h := ho3.size; simp at h; omega); clear ho3 s0 s1 s2 s3 x0 x1 x2 x3; obtain ⟨s0, s1, s2, s3, _⟩ := HA3.out.s; obtain ⟨x0, x1, x2, x3, _⟩ := HA3.out.x)
              | (go_at_call 28; (with_reducible refine (HC28.out _ HA3.out.only).mono ?_); rintro e W4 ⟨rfl, hX4, ho4⟩; have HA4 := Lib.hid (HA3.out.kept ho4); have hz4 := HA4.out.size; have hl1 := HLW.out _ hX4; have hl2 := HLH.out _ hX4; have hzz := HZ3.out; have t4 := HT3.out.kept ho4 (by simp; omega) (.inl (by simp; omega)); have u4 := HU3.out.kept ho4 (by simp) (.inl (by simp)); clear ho4 hX4 hzz s0 s1 s2 s3 x0 x1 x2 x3; obtain ⟨s0, s1, s2, s3, _⟩ := HA4.out.s; obtain ⟨x0, x1, x2, x3, _⟩ := HA4.out.x; obtain ⟨t0, t1, t2, _⟩ := t4; obtain ⟨u0, u1, u2, _⟩ := u4)
              | fail)
            go_roundw
            case rel => exact ⟨k + 1, by go_num, hkl, HA4.out⟩
            case measure => simp [intOf]; omega
          · skip
            have hn2 : decide (now < h1) = true := decide_eq_true (by omega)
            have HFW : Hid (findK xs pl = none) := Lib.hid (by rw [findK_get, ← HSW.out.get, hgw]; rfl)
            have HFH : Hid (findK ys pl = some (pl, (h0, h1))) := Lib.hid (by rw [findK_get, ← HSH.out.get, hgh]; rfl)
            have hbel : believe hs now pl = (h0, true) := by unfold believe; rw [hgh]; dsimp only; rw [if_neg hn]
            have HC28 := Lib.hid (fun V hX => bel_from (m1 := m1) (li := life) (co := count) (show Out w V from hX) HM2.out HWF.out hbel)
            have HLW := Lib.hid (fun V hX => (mapIs_out HM1.out (show Out w V from hX)).look1 Try.underlying38 (zero119 _) pl HWF.out)
            have HLH := Lib.hid (fun V hX => (mapIs_out HM2.out (show Out w V from hX)).look1 Try.underlying39 (zero122 _) pl HWF.out)
            rw [hgw] at HLW
            rw [hgh] at HLH
            dsimp only [Option.getD, pairE] at HLW HLH
            clear hbel hgw hgh hn
            go_wp2_with (first
              | (go_at_call 61; refine (wanted_any _ life count pl _ _ xs (HV1.out.kept HA.out.only)).mono ?_; unfold Found3; rw [HFW.out]; dsimp only [Option.getD, Option.isSome, rec3, zrec3]; rintro e W2 ⟨rfl, ho2⟩; have HA2 := Lib.hid (HA.out.kept (ho2.alloc (.cells #[.int .i64 0, .int .i64 0, .int .i64 0] 133))); have hz2 := HA2.out.size; have HT2 := Lib.hid (T3.of (top_at W2 (.cells #[.int .i64 0, .int .i64 0, .int .i64 0] 133) _ rfl)); clear ho2 s0 s1 s2 s3 x0 x1 x2 x3; obtain ⟨s0, s1, s2, s3, _⟩ := HA2.out.s; obtain ⟨x0, x1, x2, x3, _⟩ := HA2.out.x)
              | (go_at_call 62; refine (had_any _ life count pl _ _ ys (HV2.out.kept HA2.out.only)).mono ?_; unfold Found3; rw [HFH.out]; dsimp only [Option.getD, Option.isSome, rec3, zrec3]; rintro e W3 ⟨rfl, ho3⟩; have HA3 := Lib.hid (HA2.out.kept (ho3.alloc (.cells #[.int .i64 pl, .int .i64 h0, .int .i64 h1] 137))); have hz3 := HA3.out.size; have HT3 := Lib.hid (HT2.out.kept (ho3.alloc (.cells #[.int .i64 pl, .int .i64 h0, .int .i64 h1] 137)) (by simp) (.inl (by simp))); have HU3 := Lib.hid (T3.of (top_at W3 (.cells #[.int .i64 pl, .int .i64 h0, .int .i64 h1] 137) _ rfl)); have HZ3 : Hid (W2.heap.size < W3.heap.size) := Lib.hid (by have h := ho3.size; simp at h; omega); clear ho3 s0 s1 s2 s3 x0 x1 x2 x3; obtain ⟨s0, s1, s2, s3, _⟩ := HA3.out.s; obtain ⟨x0, x1, x2, x3, _⟩ := HA3.out.x)
              | (go_at_call 28; (with_reducible refine (HC28.out _ HA3.out.only).mono ?_); rintro e W4 ⟨rfl, hX4, ho4⟩; have HA4 := Lib.hid (HA3.out.kept ho4); have hz4 := HA4.out.size; have hl1 := HLW.out _ hX4; have hl2 := HLH.out _ hX4; have hzz := HZ3.out; have t4 := HT3.out.kept ho4 (by simp; omega) (.inl (by simp; omega)); have u4 := HU3.out.kept ho4 (by simp) (.inl (by simp)); clear ho4 hX4 hzz s0 s1 s2 s3 x0 x1 x2 x3; obtain ⟨s0, s1, s2, s3, _⟩ := HA4.out.s; obtain ⟨x0, x1, x2, x3, _⟩ := HA4.out.x; obtain ⟨t0, t1, t2, _⟩ := t4; obtain ⟨u0, u1, u2, _⟩ := u4)
              | fail)
            go_roundw
            case rel => exact ⟨k + 1, by go_num, hkl, HA4.out⟩
            case measure => simp [intOf]; omega
      | some wx =>
        obtain ⟨w0, w1⟩ := wx
        cases hgh : mget hs pl with
        | none =>
          have HFW : Hid (findK xs pl = some (pl, (w0, w1))) := Lib.hid (by rw [findK_get, ← HSW.out.get, hgw]; rfl)
          have HFH : Hid (findK ys pl = none) := Lib.hid (by rw [findK_get, ← HSH.out.get, hgh]; rfl)
          have hbel : believe hs now pl = (0, false) := by unfold believe; rw [hgh]
          have HC28 := Lib.hid (fun V hX => bel_from (m1 := m1) (li := life) (co := count) (show Out w V from hX) HM2.out HWF.out hbel)
          have HLW := Lib.hid (fun V hX => (mapIs_out HM1.out (show Out w V from hX)).look1 Try.underlying38 (zero119 _) pl HWF.out)
          have HLH := Lib.hid (fun V hX => (mapIs_out HM2.out (show Out w V from hX)).look1 Try.underlying39 (zero122 _) pl HWF.out)
          rw [hgw] at HLW
          rw [hgh] at HLH
          dsimp only [Option.getD, pairE] at HLW HLH
          clear hbel hgw hgh
          go_wp2_with (first
            | (go_at_call 61; refine (wanted_any _ life count pl _ _ xs (HV1.out.kept HA.out.only)).mono ?_; unfold Found3; rw [HFW.out]; dsimp only [Option.getD, Option.isSome, rec3, zrec3]; rintro e W2 ⟨rfl, ho2⟩; have HA2 := Lib.hid (HA.out.kept (ho2.alloc (.cells #[.int .i64 pl, .int .i64 w0, .int .i64 w1] 133))); have hz2 := HA2.out.size; have HT2 := Lib.hid (T3.of (top_at W2 (.cells #[.int .i64 pl, .int .i64 w0, .int .i64 w1] 133) _ rfl)); clear ho2 s0 s1 s2 s3 x0 x1 x2 x3; obtain ⟨s0, s1, s2, s3, _⟩ := HA2.out.s; obtain ⟨x0, x1, x2, x3, _⟩ := HA2.out.x)
            | (go_at_call 62; refine (had_any _ life count pl _ _ ys (HV2.out.kept HA2.out.only)).mono ?_; unfold Found3; rw [HFH.out]; dsimp only [Option.getD, Option.isSome, rec3, zrec3]; rintro e W3 ⟨rfl, ho3⟩; have HA3 := Lib.hid (HA2.out.kept (ho3.alloc (.cells #[.int .i64 0, .int .i64 0, .int .i64 0] 137))); have hz3 := HA3.out.size; have HT3 := Lib.hid (HT2.out.kept (ho3.alloc (.cells #[.int .i64 0, .int .i64 0, .int .i64 0] 137)) (by simp) (.inl (by simp))); have HU3 := Lib.hid (T3.of (top_at W3 (.cells #[.int .i64 0, .int .i64 0, .int .i64 0] 137) _ rfl)); have HZ3 : Hid (W2.heap.size < W3.heap.size) := Lib.hid (by have h := ho3.size; simp at h; omega); clear ho3 s0 s1 s2 s3 x0 x1 x2 x3; obtain ⟨s0, s1, s2, s3, _⟩ := HA3.out.s; obtain ⟨x0, x1, x2, x3, _⟩ := HA3.out.x)
            | (go_at_call 28; (with_reducible refine (HC28.out _ HA3.out.only).mono ?_); rintro e W4 ⟨rfl, hX4, ho4⟩; have HA4 := Lib.hid (HA3.out.kept ho4); have hz4 := HA4.out.size; have hl1 := HLW.out _ hX4; have hl2 := HLH.out _ hX4; have hzz := HZ3.out; have t4 := HT3.out.kept ho4 (by simp; omega) (.inl (by simp; omega)); have u4 := HU3.out.kept ho4 (by simp) (.inl (by simp)); clear ho4 hX4 hzz s0 s1 s2 s3 x0 x1 x2 x3; obtain ⟨s0, s1, s2, s3, _⟩ := HA4.out.s; obtain ⟨x0, x1, x2, x3, _⟩ := HA4.out.x; obtain ⟨t0, t1, t2, _⟩ := t4; obtain ⟨u0, u1, u2, _⟩ := u4)
            | fail)
          go_roundw
          case rel => exact ⟨k + 1, by go_num, hkl, HA4.out⟩
          case measure => simp [intOf]; omega
        | some hx =>
          obtain ⟨h0, h1⟩ := hx
          by_cases hn : h1 ≤ now
          · skip
            have hn2 : decide (now < h1) = false := decide_eq_false (by omega)
            have HFW : Hid (findK xs pl = some (pl, (w0, w1))) := Lib.hid (by rw [findK_get, ← HSW.out.get, hgw]; rfl)
            have HFH : Hid (findK ys pl = some (pl, (h0, h1))) := Lib.hid (by rw [findK_get, ← HSH.out.get, hgh]; rfl)
            have hbel : believe hs now pl = (0, false) := by unfold believe; rw [hgh]; dsimp only; rw [if_pos hn]
            have HC28 := Lib.hid (fun V hX => bel_from (m1 := m1) (li := life) (co := count) (show Out w V from hX) HM2.out HWF.out hbel)
            have HLW := Lib.hid (fun V hX => (mapIs_out HM1.out (show Out w V from hX)).look1 Try.underlying38 (zero119 _) pl HWF.out)
            have HLH := Lib.hid (fun V hX => (mapIs_out HM2.out (show Out w V from hX)).look1 Try.underlying39 (zero122 _) pl HWF.out)
            rw [hgw] at HLW
            rw [hgh] at HLH
            dsimp only [Option.getD, pairE] at HLW HLH
            clear hbel hgw hgh hn
            go_wp2_with (first
              | (go_at_call 61; refine (wanted_any _ life count pl _ _ xs (HV1.out.kept HA.out.only)).mono ?_; unfold Found3; rw [HFW.out]; dsimp only [Option.getD, Option.isSome, rec3, zrec3]; rintro e W2 ⟨rfl, ho2⟩; have HA2 := Lib.hid (HA.out.kept (ho2.alloc (.cells #[.int .i64 pl, .int .i64 w0, .int .i64 w1] 133))); have hz2 := HA2.out.size; have HT2 := Lib.hid (T3.of (top_at W2 (.cells #[.int .i64 pl, .int .i64 w0, .int .i64 w1] 133) _ rfl)); clear ho2 s0 s1 s2 s3 x0 x1 x2 x3; obtain ⟨s0, s1, s2, s3, _⟩ := HA2.out.s; obtain ⟨x0, x1, x2, x3, _⟩ := HA2.out.x)
              | (go_at_call 62; refine (had_any _ life count pl _ _ ys (HV2.out.kept HA2.out.only)).mono ?_; unfold Found3; rw [HFH.out]; dsimp only [Option.getD, Option.isSome, rec3, zrec3]; rintro e W3 ⟨rfl, ho3⟩; have HA3 := Lib.hid (HA2.out.kept (ho3.alloc (.cells #[.int .i64 pl, .int .i64 h0, .int .i64 h1] 137))); have hz3 := HA3.out.size; have HT3 := Lib.hid (HT2.out.kept (ho3.alloc (.cells #[.int .i64 pl, .int .i64 h0, .int .i64 h1] 137)) (by simp) (.inl (by simp))); have HU3 := Lib.hid (T3.of (top_at W3 (.cells #[.int .i64 pl, .int .i64 h0, .int .i64 h1] 137) _ rfl)); have HZ3 : Hid (W2.heap.size < W3.heap.size) := Lib.hid (by have h := ho3.size; simp at h; omega); clear ho3 s0 s1 s2 s3 x0 x1 x2 x3; obtain ⟨s0, s1, s2, s3, _⟩ := HA3.out.s; obtain ⟨x0, x1, x2, x3, _⟩ := HA3.out.x)
              | (go_at_call 28; (with_reducible refine (HC28.out _ HA3.out.only).mono ?_); rintro e W4 ⟨rfl, hX4, ho4⟩; have HA4 := Lib.hid (HA3.out.kept ho4); have hz4 := HA4.out.size; have hl1 := HLW.out _ hX4; have hl2 := HLH.out _ hX4; have hzz := HZ3.out; have t4 := HT3.out.kept ho4 (by simp; omega) (.inl (by simp; omega)); have u4 := HU3.out.kept ho4 (by simp) (.inl (by simp)); clear ho4 hX4 hzz s0 s1 s2 s3 x0 x1 x2 x3; obtain ⟨s0, s1, s2, s3, _⟩ := HA4.out.s; obtain ⟨x0, x1, x2, x3, _⟩ := HA4.out.x; obtain ⟨t0, t1, t2, _⟩ := t4; obtain ⟨u0, u1, u2, _⟩ := u4)
              | fail)
            go_roundw
            case rel => exact ⟨k + 1, by go_num, hkl, HA4.out⟩
            case measure => simp [intOf]; omega
          · skip
            have hn2 : decide (now < h1) = true := decide_eq_true (by omega)
            have HFW : Hid (findK xs pl = some (pl, (w0, w1))) := Lib.hid (by rw [findK_get, ← HSW.out.get, hgw]; rfl)
            have HFH : Hid (findK ys pl = some (pl, (h0, h1))) := Lib.hid (by rw [findK_get, ← HSH.out.get, hgh]; rfl)
            have hbel : believe hs now pl = (h0, true) := by unfold believe; rw [hgh]; dsimp only; rw [if_neg hn]
            have HC28 := Lib.hid (fun V hX => bel_from (m1 := m1) (li := life) (co := count) (show Out w V from hX) HM2.out HWF.out hbel)
            have HLW := Lib.hid (fun V hX => (mapIs_out HM1.out (show Out w V from hX)).look1 Try.underlying38 (zero119 _) pl HWF.out)
            have HLH := Lib.hid (fun V hX => (mapIs_out HM2.out (show Out w V from hX)).look1 Try.underlying39 (zero122 _) pl HWF.out)
            rw [hgw] at HLW
            rw [hgh] at HLH
            dsimp only [Option.getD, pairE] at HLW HLH
            clear hbel hgw hgh hn
            go_wp2_with (first
              | (go_at_call 61; refine (wanted_any _ life count pl _ _ xs (HV1.out.kept HA.out.only)).mono ?_; unfold Found3; rw [HFW.out]; dsimp only [Option.getD, Option.isSome, rec3, zrec3]; rintro e W2 ⟨rfl, ho2⟩; have HA2 := Lib.hid (HA.out.kept (ho2.alloc (.cells #[.int .i64 pl, .int .i64 w0, .int .i64 w1] 133))); have hz2 := HA2.out.size; have HT2 := Lib.hid (T3.of (top_at W2 (.cells #[.int .i64 pl, .int .i64 w0, .int .i64 w1] 133) _ rfl)); clear ho2 s0 s1 s2 s3 x0 x1 x2 x3; obtain ⟨s0, s1, s2, s3, _⟩ := HA2.out.s; obtain ⟨x0, x1, x2, x3, _⟩ := HA2.out.x)
              | (go_at_call 62; refine (had_any _ life count pl _ _ ys (HV2.out.kept HA2.out.only)).mono ?_; unfold Found3; rw [HFH.out]; dsimp only [Option.getD, Option.isSome, rec3, zrec3]; rintro e W3 ⟨rfl, ho3⟩; have HA3 := Lib.hid (HA2.out.kept (ho3.alloc (.cells #[.int .i64 pl, .int .i64 h0, .int .i64 h1] 137))); have hz3 := HA3.out.size; have HT3 := Lib.hid (HT2.out.kept (ho3.alloc (.cells #[.int .i64 pl, .int .i64 h0, .int .i64 h1] 137)) (by simp) (.inl (by simp))); have HU3 := Lib.hid (T3.of (top_at W3 (.cells #[.int .i64 pl, .int .i64 h0, .int .i64 h1] 137) _ rfl)); have HZ3 : Hid (W2.heap.size < W3.heap.size) := Lib.hid (by have h := ho3.size; simp at h; omega); clear ho3 s0 s1 s2 s3 x0 x1 x2 x3; obtain ⟨s0, s1, s2, s3, _⟩ := HA3.out.s; obtain ⟨x0, x1, x2, x3, _⟩ := HA3.out.x)
              | (go_at_call 28; (with_reducible refine (HC28.out _ HA3.out.only).mono ?_); rintro e W4 ⟨rfl, hX4, ho4⟩; have HA4 := Lib.hid (HA3.out.kept ho4); have hz4 := HA4.out.size; have hl1 := HLW.out _ hX4; have hl2 := HLH.out _ hX4; have hzz := HZ3.out; have t4 := HT3.out.kept ho4 (by simp; omega) (.inl (by simp; omega)); have u4 := HU3.out.kept ho4 (by simp) (.inl (by simp)); clear ho4 hX4 hzz s0 s1 s2 s3 x0 x1 x2 x3; obtain ⟨s0, s1, s2, s3, _⟩ := HA4.out.s; obtain ⟨x0, x1, x2, x3, _⟩ := HA4.out.x; obtain ⟨t0, t1, t2, _⟩ := t4; obtain ⟨u0, u1, u2, _⟩ := u4)
              | fail)
            go_roundw
            case rel => exact ⟨k + 1, by go_num, hkl, HA4.out⟩
            case measure => simp [intOf]; omega
    · obtain rfl : k = ls.length := by omega
      go_wp2_with fail
      go_ret
      exact ⟨rfl, HA.out.only⟩
end Go.Proofs.Ytefllgpehhlkoaa
