/-
  FrameSums, walked.
-/
import Derived.Test.YtjlfoiocceepjaaDoorAwk
import Derived.Test.YtjlfoiocceepjaaDoorSumsP
import Derived.Test.YtjlfoiocceepjaaDoorLong
import Derived.Deep.RegionHeld3
import Derived.Deep.DeepCutAuto
import Derived.Deep.CutBlock
namespace Go.Proofs.YtjlfoiocceepjaaDoor
open Go.RowKit Go.Proofs.YtjlfoiocceepjaaDoorW.PrintWords Go.Proofs.YtjlfoiocceepjaaDoorW.PrintLast Go.Proofs.YtjlfoiocceepjaaDoorW.PrintMore
set_option linter.unusedVariables false
set_option linter.unusedSimpArgs false

/-- three rows of a call's own: two of bytes that came in, one for the answer -/
structure Sr (w W : World) (gx gy gz : Nat) (x y z : List UInt8) : Prop where
  x : Yrow W gx x
  y : Yrow W gy y
  z : Yrow W gz z
  xz : gx ≠ gz
  yz : gy ≠ gz
  lo : w.heap.size ≤ gz
  below : Below w.heap.size w W
  gl : Gl W
theorem sr_xyz {mx my mz : World → World} {x y z : List UInt8} (HX : Lays mx x) (HY : Lays my y) (HZ : Lays mz z) {w V : World} (hb : Below w.heap.size w V) (hg : Gl V) :
    Sr w (mz (my (mx V))) V.heap.size (mx V).heap.size (my (mx V)).heap.size x y z := by
  obtain ⟨r1, r2, r3, i1, i2, hB⟩ := three HX HY HZ V
  have h0 := hb.size
  exact ⟨r1, r2, r3, by omega, by omega, by omega, hb.trans (hB.mono hb.size), hg.out hB⟩
theorem sr_xzy {mx my mz : World → World} {x y z : List UInt8} (HX : Lays mx x) (HY : Lays my y) (HZ : Lays mz z) {w V : World} (hb : Below w.heap.size w V) (hg : Gl V) :
    Sr w (my (mz (mx V))) V.heap.size (mz (mx V)).heap.size (mx V).heap.size x y z := by
  obtain ⟨r1, r2, r3, i1, i2, hB⟩ := three HX HZ HY V
  have h0 := hb.size
  exact ⟨r1, r3, r2, by omega, by omega, by omega, hb.trans (hB.mono hb.size), hg.out hB⟩
theorem sr_yxz {mx my mz : World → World} {x y z : List UInt8} (HX : Lays mx x) (HY : Lays my y) (HZ : Lays mz z) {w V : World} (hb : Below w.heap.size w V) (hg : Gl V) :
    Sr w (mz (mx (my V))) (my V).heap.size V.heap.size (mx (my V)).heap.size x y z := by
  obtain ⟨r1, r2, r3, i1, i2, hB⟩ := three HY HX HZ V
  have h0 := hb.size
  exact ⟨r2, r1, r3, by omega, by omega, by omega, hb.trans (hB.mono hb.size), hg.out hB⟩
theorem sr_yzx {mx my mz : World → World} {x y z : List UInt8} (HX : Lays mx x) (HY : Lays my y) (HZ : Lays mz z) {w V : World} (hb : Below w.heap.size w V) (hg : Gl V) :
    Sr w (mx (mz (my V))) (mz (my V)).heap.size V.heap.size (my V).heap.size x y z := by
  obtain ⟨r1, r2, r3, i1, i2, hB⟩ := three HY HZ HX V
  have h0 := hb.size
  exact ⟨r3, r1, r2, by omega, by omega, by omega, hb.trans (hB.mono hb.size), hg.out hB⟩
theorem sr_zxy {mx my mz : World → World} {x y z : List UInt8} (HX : Lays mx x) (HY : Lays my y) (HZ : Lays mz z) {w V : World} (hb : Below w.heap.size w V) (hg : Gl V) :
    Sr w (my (mx (mz V))) (mz V).heap.size (mx (mz V)).heap.size V.heap.size x y z := by
  obtain ⟨r1, r2, r3, i1, i2, hB⟩ := three HZ HX HY V
  have h0 := hb.size
  exact ⟨r2, r3, r1, by omega, by omega, by omega, hb.trans (hB.mono hb.size), hg.out hB⟩
theorem sr_zyx {mx my mz : World → World} {x y z : List UInt8} (HX : Lays mx x) (HY : Lays my y) (HZ : Lays mz z) {w V : World} (hb : Below w.heap.size w V) (hg : Gl V) :
    Sr w (mx (my (mz V))) (my (mz V)).heap.size (mz V).heap.size V.heap.size x y z := by
  obtain ⟨r1, r2, r3, i1, i2, hB⟩ := three HZ HY HX V
  have h0 := hb.size
  exact ⟨r3, r2, r1, by omega, by omega, by omega, hb.trans (hB.mono hb.size), hg.out hB⟩
/-- a stronger word on the worlds serves -/
theorem wpAnyH_mono {P : Program} {md : Region.Mode} {ops : Array Oper} {Q : Exit → Act → World → Prop} {S S' : World → Prop} (h : ∀ w, S' w → S w) :
    ∀ (fuel : Nat) (listed : Array Bool) (a : Act) (w : World), wpAnyH P md ops Q S' fuel listed a w → wpAnyH P md ops Q S fuel listed a w
  | 0, _, _, _, H => H
  | fuel + 1, _, _, _, H => ⟨H.1, fun i hi => wpOp_mono (fun a' w' h' => ⟨h w' h'.1, wpAnyH_mono h fuel _ a' w' h'.2⟩) (H.2 i hi)⟩
theorem infoByte : (Tryd.prog.info? 5).map (fun i => (i.zero, i.size, i.bytes)) = some (some (.int .u8 0), 1, 1) := by kernel_rfl
set_option maxRecDepth 100000 in
set_option maxHeartbeats 4000000 in
theorem sums_in (A B X Y : ByteArray) (x y : List UInt8) (n : Nat) (w : World) (hg : Gl w) (hX : X = str x) (hY : Y = str y) (hx : x.length = n) (hy : y.length = n) (hn : n ≤ 200)
    (hA : n ≤ A.size) (hB : n ≤ B.size) (hmin : n = min (min A.size B.size) 200) (hXA : X = A.extract 0 n) (hYB : Y = B.extract 0 n) :
    Calls Tryd.prog 7 #[.string A, .string B] w (RetT w) := by
  have HG := Lib.hid hg
  have hmn : ∀ ats ty, Builtin.min_ ats ty #[.int .i64 (A.size : Int), .int .i64 (B.size : Int), .int .i64 200] = pure (.int .i64 (n : Int)) := fun ats ty => by
    rw [min_three, min2_int, pure_bind, min2_int, pure_bind]
    have e : (if (200 : Int) < (if (B.size : Int) < (A.size : Int) then (B.size : Int) else (A.size : Int)) then (200 : Int) else (if (B.size : Int) < (A.size : Int) then (B.size : Int) else (A.size : Int))) = (n : Int) := by omega
    rw [e]
  clear hmin
  have hXn : X.size = n := by rw [hX, str_size, hx]
  have hYn : Y.size = n := by rw [hY, str_size, hy]
  obtain ⟨mx, hmx⟩ : ∃ m : World → World, m = fun W => W.drew.alloc (.cells (bytesRow X (grownCap W X.size 0 5)) 5 ((bytesRow X (grownCap W X.size 0 5)).size, (bytesRow X (grownCap W X.size 0 5)).size + 1)) := ⟨_, rfl⟩
  obtain ⟨cx, hcx⟩ : ∃ c : World → Nat, c = fun W => grownCap W X.size 0 5 := ⟨_, rfl⟩
  obtain ⟨my, hmy⟩ : ∃ m : World → World, m = fun W => W.drew.alloc (.cells (bytesRow Y (grownCap W Y.size 0 5)) 5 ((bytesRow Y (grownCap W Y.size 0 5)).size, (bytesRow Y (grownCap W Y.size 0 5)).size + 1)) := ⟨_, rfl⟩
  obtain ⟨cy, hcy⟩ : ∃ c : World → Nat, c = fun W => grownCap W Y.size 0 5 := ⟨_, rfl⟩
  obtain ⟨mz, hmz⟩ : ∃ m : World → World, m = fun W => W.alloc (.cells (madeCells #[.int .u8 0] n) 5) := ⟨_, rfl⟩
  have hvx : ∀ W, (convert 9 37 (.string X)).run Tryd.prog W = .ok (.slice (some ⟨W.heap.size, 0, none⟩) n (cx W)) (mx W) := fun W => by
    rw [hmx, hcx, ← hXn]; exact run_bytes_of_string W 9 37 5 X Tryd.underlying9 Tryd.underlying37 Tryd.underlying5
  have hvy : ∀ W, (convert 9 37 (.string Y)).run Tryd.prog W = .ok (.slice (some ⟨W.heap.size, 0, none⟩) n (cy W)) (my W) := fun W => by
    rw [hmy, hcy, ← hYn]; exact run_bytes_of_string W 9 37 5 Y Tryd.underlying9 Tryd.underlying37 Tryd.underlying5
  obtain ⟨i0, hi, hzz⟩ := Option.map_eq_some_iff.1 infoByte
  simp only [Prod.mk.injEq] at hzz
  obtain ⟨hz0, hz1, hz2⟩ := hzz
  have hvz : ∀ W, (Instr.makeSlice 37 (.int .i64 (n : Int)) (.int .i64 (n : Int))).run Tryd.prog W = .ok (.slice (some ⟨W.heap.size, 0, none⟩) n n) (mz W) := fun W => by
    have hmk := run_make (P := Tryd.prog) W 37 5 i0 (.int .u8 0) Tryd.underlying37 hi hz0 .i64 .i64 (n : Int) (n : Int) (by omega) (by omega) (by rw [hz2]; omega) (by omega)
    simp only [Int.toNat_natCast] at hmk
    rw [hz1] at hmk
    simp only [Value.cells, Nat.mul_one] at hmk
    rw [hmz]; exact hmk
  have hsx : ∀ W, (Instr.slice 9 (.string A) none (some (.int .i64 (n : Int))) none).run Tryd.prog W = .ok (.string X) W := fun W => by
    rw [run_slice_string_h (ht := Tryd.underlying9) _ _ _ .i64 _ (by omega) (by omega), hXA]; rfl
  have hsy : ∀ W, (Instr.slice 9 (.string B) none (some (.int .i64 (n : Int))) none).run Tryd.prog W = .ok (.string Y) W := fun W => by
    rw [run_slice_string_h (ht := Tryd.underlying9) _ _ _ .i64 _ (by omega) (by omega), hYB]; rfl
  have LX : Hid (Lays mx x) := Lib.hid (Lays.of (fun W => by rw [hmx, ← str_list x, ← hX]; exact (Zrow.made W X _).y) (fun W => by rw [hmx]; exact (Below.refl W.heap.size W).drew.alloc (Nat.le_refl _) _))
  have LY : Hid (Lays my y) := Lib.hid (Lays.of (fun W => by rw [hmy, ← str_list y, ← hY]; exact (Zrow.made W Y _).y) (fun W => by rw [hmy]; exact (Below.refl W.heap.size W).drew.alloc (Nat.le_refl _) _))
  have LZ : Hid (Lays mz (List.replicate n 0)) := Lib.hid (Lays.of (fun W => by rw [hmz]; exact Yrow.zeros W n) (fun W => by rw [hmz]; exact (Below.refl W.heap.size W).alloc (Nat.le_refl _) _))
  have HX := Lib.hid (And.intro hX hY)
  have HL := Lib.hid (And.intro hx hy)
  clear hmx hcx hmy hcy hmz hi hz0 hz1 hz2 hX hY hXA hYB hx hy hg
  go_enter Tryd.func7, Tryd.ntmps7
  go_wp2_with fail
  have HV : Hid (Below w.heap.size w w.drew ∧ Gl w.drew) := Lib.hid ⟨(Below.refl _ _).drew, HG.out⟩
  go_cut [6, 7, 8] (fun s6 s7 s8 W => ∃ gx gy gz q1 q2 : Nat, s6 = .slice (some ⟨gx, 0, none⟩) n q1 ∧ s7 = .slice (some ⟨gy, 0, none⟩) n q2 ∧ s8 = .slice (some ⟨gz, 0, none⟩) n n ∧ Sr w W gx gy gz x y (List.replicate n 0))
  case first =>
    go_region
    all_goals go_wp2_with fail
    all_goals go_meet
    all_goals first
      | exact ⟨_, _, _, _, _, rfl, rfl, rfl, sr_xyz LX.out LY.out LZ.out HV.out.1 HV.out.2⟩
      | exact ⟨_, _, _, _, _, rfl, rfl, rfl, sr_xzy LX.out LY.out LZ.out HV.out.1 HV.out.2⟩
      | exact ⟨_, _, _, _, _, rfl, rfl, rfl, sr_yxz LX.out LY.out LZ.out HV.out.1 HV.out.2⟩
      | exact ⟨_, _, _, _, _, rfl, rfl, rfl, sr_yzx LX.out LY.out LZ.out HV.out.1 HV.out.2⟩
      | exact ⟨_, _, _, _, _, rfl, rfl, rfl, sr_zxy LX.out LY.out LZ.out HV.out.1 HV.out.2⟩
      | exact ⟨_, _, _, _, _, rfl, rfl, rfl, sr_zyx LX.out LY.out LZ.out HV.out.1 HV.out.2⟩
  case rest =>
    obtain ⟨gx, gy, gz, q1, q2, rfl, rfl, rfl, hs⟩ := hcut
    have HS := Lib.hid hs
    clear hs LX LY HV
    go_wp2_with fail
    go_loopw [9, 27] (fun _ kv W => ∃ i : Nat, i ≤ n ∧ kv = .int .i64 (i : Int) ∧ Hid (Sr w W gx gy gz x y (zst x y i))) (fun _ kv _ => n - (intOf kv).toNat)
    case atStart => exact ⟨0, by omega, rfl, Lib.hid (by have := HS.out; unfold zst; rw [HL.out.1]; exact this)⟩
    case round =>
      clear HS
      obtain ⟨i, hi, rfl, H⟩ := hrel
      by_cases hlt : i < n
      · have hiI : (i : Int) < (n : Int) := by omega
        have hx := H.out.x.cell i (by rw [HL.out.1]; exact hlt)
        have hy := H.out.y.cell i (by rw [HL.out.2]; exact hlt)
        have hzl : i < (zst x y i).length := by rw [zst_length, HL.out.1]; exact hlt
        have hz := H.out.z.cell i hzl
        have hf := H.out.z.free i hzl
        obtain ⟨a, ha⟩ : ∃ a, a = x.getD i 0 := ⟨_, rfl⟩
        obtain ⟨b, hb⟩ : ∃ b, b = y.getD i 0 := ⟨_, rfl⟩
        obtain ⟨c, hc⟩ : ∃ c, c = (zst x y i).getD i 0 := ⟨_, rfl⟩
        rw [← ha] at hx
        rw [← hb] at hy
        rw [← hc] at hz
        have HAB := Lib.hid (And.intro ha (And.intro hb hzl))
        have hxor : bits BinOp.xor IntKind.u8 (a.toNat : Int) (b.toNat : Int) = ((a ^^^ b).toNat : Int) := by
          rw [u8_xor_nat _ _ a.toNat_lt b.toNat_lt, UInt8.toNat_xor]
        clear ha hb hc hzl
        generalize hq : a ^^^ b = q at *
        have HQ := Lib.hid hq
        clear hq
        go_wp2_with fail
        go_region
        go_wp2_with fail
        go_roundw
        case rel =>
          refine ⟨i + 1, by omega, by go_num, Lib.hid ?_⟩
          have h := H.out
          have e : zst x y (i + 1) = (zst x y i).set i q := by rw [← HQ.out, HAB.out.1, HAB.out.2.1]; rfl
          rw [e]
          exact ⟨h.x.far h.xz _, h.y.far h.yz _, h.z.put i HAB.out.2.2 q, h.xz, h.yz, h.lo, (h.below.setCell h.lo _).drew, h.gl.below ((Below.refl gz wr).setCell (Nat.le_refl _) _).drew (Nat.lt_of_lt_of_le HG.out.pos h.lo)⟩
        case measure => simp [intOf]; omega
      · obtain rfl : n = i := by omega
        have h := H.out
        obtain ⟨Z, hZ⟩ : ∃ Z, Z = str (bxor x y) := ⟨_, rfl⟩
        obtain ⟨O, hO⟩ : ∃ O, O = str (List.replicate n 0) := ⟨_, rfl⟩
        have ezz : zst x y n = bxor x y := by have := zst_all x y (by rw [HL.out.1, HL.out.2]); rw [HL.out.1] at this; exact this
        rw [ezz] at h
        have HT : Hid (∀ W, Below wr.heap.size wr W → (convert 37 9 (.slice (some ⟨gx, 0, none⟩) n q1)).run Tryd.prog W = .ok (.string X) W ∧ (convert 37 9 (.slice (some ⟨gy, 0, none⟩) n q2)).run Tryd.prog W = .ok (.string Y) W ∧ (convert 37 9 (.slice (some ⟨gz, 0, none⟩) n n)).run Tryd.prog W = .ok (.string Z) W) := Lib.hid (fun W hb => by
          rw [HX.out.1, HX.out.2, hZ]
          exact ⟨(h.x.out hb).text q1 n HL.out.1.symm, (h.y.out hb).text q2 n HL.out.2.symm, (h.z.out hb).text n n (by rw [bxor_length x y (by rw [HL.out.1, HL.out.2])]; exact HL.out.1.symm)⟩)
        have HO : Hid (∀ W, (convert 37 9 (.slice (some ⟨W.heap.size, 0, none⟩) n n)).run Tryd.prog (mz W) = .ok (.string O) (mz W)) := Lib.hid (fun W => by
          rw [hO]; exact (LZ.out W).1.text n n (by simp))
        have hxy : x.length = y.length := by rw [HL.out.1, HL.out.2]
        obtain ⟨c1, hc1⟩ : ∃ c, c = csum x := ⟨_, rfl⟩
        obtain ⟨c2, hc2⟩ : ∃ c, c = csum y := ⟨_, rfl⟩
        obtain ⟨c3, hc3⟩ : ∃ c, c = csum (bxor x y) := ⟨_, rfl⟩
        obtain ⟨c4, hc4⟩ : ∃ c, c = csum (List.replicate n 0) := ⟨_, rfl⟩
        obtain ⟨c12, hc12⟩ : ∃ c, c = c1 ^^^ c2 := ⟨_, rfl⟩
        have hx4 : bits .xor .u32 (c12.toNat : Int) (c3.toNat : Int) = (c4.toNat : Int) := by
          rw [xor_bv, hc12, hc1, hc2, hc3, hc4, sums_xor x y hxy, HL.out.1]
        have hx12 : bits .xor .u32 (c1.toNat : Int) (c2.toNat : Int) = (c12.toNat : Int) := by rw [xor_bv, hc12]
        have hbl : (bxor x y).length = n := by rw [bxor_length x y hxy]; exact HL.out.1
        have K1 : Hid (∀ V, Calls Tryd.prog 20 #[.string X] V fun e w' => e = .returned (.int .u32 (c1.toNat : Int)) ∧ V = w') := Lib.hid (fun V => (sum_any X V (by rw [hXn]; omega)).mono fun e w' h => ⟨by rw [h.1, HX.out.1, str_list, hc1]; rfl, h.2⟩)
        have K2 : Hid (∀ V, Calls Tryd.prog 20 #[.string Y] V fun e w' => e = .returned (.int .u32 (c2.toNat : Int)) ∧ V = w') := Lib.hid (fun V => (sum_any Y V (by rw [hYn]; omega)).mono fun e w' h => ⟨by rw [h.1, HX.out.2, str_list, hc2]; rfl, h.2⟩)
        have K3 : Hid (∀ V, Calls Tryd.prog 20 #[.string Z] V fun e w' => e = .returned (.int .u32 (c3.toNat : Int)) ∧ V = w') := Lib.hid (fun V => (sum_any Z V (by rw [hZ, str_size, hbl]; omega)).mono fun e w' h => ⟨by rw [h.1, hZ, str_list, hc3]; rfl, h.2⟩)
        have K4 : Hid (∀ V, Calls Tryd.prog 20 #[.string O] V fun e w' => e = .returned (.int .u32 (c4.toNat : Int)) ∧ V = w') := Lib.hid (fun V => (sum_any O V (by rw [hO, str_size, List.length_replicate]; omega)).mono fun e w' h => ⟨by rw [h.1, hO, str_list, hc4]; rfl, h.2⟩)
        have HD := Lib.hid ((Below.refl wr.heap.size wr).drew)
        have HT0 := Lib.hid (HT.out _ HD.out)
        have HB := Lib.hid h.below
        have HGr := Lib.hid (show Gl wr.drew from h.gl)
        clear h hc1 hc2 hc3 hc4 hc12 hO hZ ezz hbl hxy H hvx hvy hsx hsy
        go_wp2_with fail
        refine wp_region_held_drew (S := (fun W => (convert 37 9 (.slice (some ⟨gx, 0, none⟩) n q1)).run Tryd.prog W = .ok (.string X) W ∧ (convert 37 9 (.slice (some ⟨gy, 0, none⟩) n q2)).run Tryd.prog W = .ok (.string Y) W ∧ (convert 37 9 (.slice (some ⟨gz, 0, none⟩) n n)).run Tryd.prog W = .ok (.string Z) W)) (by kernel_rfl) HT0.out (fun hHeld => ?_)
        refine wpAnyH_ready (rs := [0]) (by kernel_rfl) (by simp) ?_
        refine AllReadyH.cons (o := ⟨some 43, Go.Op.call ⟨Go.Callee.value (Go.Operand.func 18), #[], #[]⟩, 4, "outright.go:26", #[], none⟩) rfl (fun K hK => ?_) ?_
        ·
          rw [if_pos (by rfl)]
          go_simp
          (go_at_call 18; (with_reducible refine (awake_any _ HGr.out).mono ?_); rintro e w4 ⟨rfl, hb⟩; have HB4 := Lib.hid (HD.out.trans (hb.mono HD.out.size)); have HT1 := Lib.hid (HT.out w4 HB4.out); have HT2 := Lib.hid (HT.out (mz w4) (HB4.out.trans ((LZ.out w4).2.1.mono HB4.out.size))); have HO4 := Lib.hid (HO.out w4); have HF := Lib.hid (HB.out.trans ((HB4.out.trans ((LZ.out w4).2.1.mono HB4.out.size)).mono HB.out.size)); clear hb)
          refine hK.out _ _ (by exact HT1.out) (fun hHeld => ?_)
          clear hK K
          (try simp only [Act.put, List.setIfInBounds_toArray, List.set_cons_zero, List.set_cons_succ])
          refine wpAnyH_take (i := 1) (oi := ⟨some 44, Go.Op.move (Go.Operand.tmp 43), 4, "outright.go:26", #[⟨0, Go.Ground.data⟩, ⟨0, Go.Ground.chain⟩], none⟩) (v := ?_) rfl (by kernel_rfl) (by kernel_rfl) (by kernel_rfl) (fun _ _ _ h => h) (Or.inl ⟨by rfl, ?_⟩) (by assumption) ?_
          rotate_left
          · (intro w hSw; (try dsimp only at hSw); go_simp; (try with_reducible rfl); done)
          (try simp only [Act.put, List.setIfInBounds_toArray, List.set_cons_zero, List.set_cons_succ])
          refine wpAnyH_take (i := 2) (oi := ⟨some 45, Go.Op.move (Go.Operand.tmp 6), 37, "outright.go:26", #[⟨1, Go.Ground.guard⟩], some (1, true)⟩) (v := ?_) rfl (by kernel_rfl) (by kernel_rfl) (by kernel_rfl) (fun _ _ _ h => h) (Or.inl ⟨by rfl, ?_⟩) (by assumption) ?_
          rotate_left
          · (intro w hSw; (try dsimp only at hSw); go_simp; (try with_reducible rfl); done)
          (try simp only [Act.put, List.setIfInBounds_toArray, List.set_cons_zero, List.set_cons_succ])
          refine wpAnyH_take (i := 3) (oi := ⟨some 46, Go.Op.convert 37 9 (Go.Operand.tmp 45), 9, "outright.go:26", #[⟨2, Go.Ground.data⟩, ⟨1, Go.Ground.guard⟩], some (1, true)⟩) (v := ?_) rfl (by kernel_rfl) (by kernel_rfl) (by kernel_rfl) (fun _ _ _ h => h) (Or.inl ⟨by rfl, ?_⟩) (by assumption) ?_
          rotate_left
          · (intro w hSw; (try dsimp only at hSw); go_simp; (try with_reducible rfl); done)
          (try simp only [Act.put, List.setIfInBounds_toArray, List.set_cons_zero, List.set_cons_succ])
          refine wpAnyH_take (i := 5) (oi := ⟨some 48, Go.Op.move (Go.Operand.tmp 7), 37, "outright.go:26", #[⟨1, Go.Ground.guard⟩], some (1, true)⟩) (v := ?_) rfl (by kernel_rfl) (by kernel_rfl) (by kernel_rfl) (fun _ _ _ h => h) (Or.inl ⟨by rfl, ?_⟩) (by assumption) ?_
          rotate_left
          · (intro w hSw; (try dsimp only at hSw); go_simp; (try with_reducible rfl); done)
          (try simp only [Act.put, List.setIfInBounds_toArray, List.set_cons_zero, List.set_cons_succ])
          refine wpAnyH_take (i := 6) (oi := ⟨some 49, Go.Op.convert 37 9 (Go.Operand.tmp 48), 9, "outright.go:26", #[⟨5, Go.Ground.data⟩, ⟨1, Go.Ground.guard⟩], some (1, true)⟩) (v := ?_) rfl (by kernel_rfl) (by kernel_rfl) (by kernel_rfl) (fun _ _ _ h => h) (Or.inl ⟨by rfl, ?_⟩) (by assumption) ?_
          rotate_left
          · (intro w hSw; (try dsimp only at hSw); go_simp; (try with_reducible rfl); done)
          (try simp only [Act.put, List.setIfInBounds_toArray, List.set_cons_zero, List.set_cons_succ])
          refine wpAnyH_take (i := 9) (oi := ⟨some 52, Go.Op.move (Go.Operand.tmp 8), 37, "outright.go:26", #[⟨1, Go.Ground.guard⟩], some (1, true)⟩) (v := ?_) rfl (by kernel_rfl) (by kernel_rfl) (by kernel_rfl) (fun _ _ _ h => h) (Or.inl ⟨by rfl, ?_⟩) (by assumption) ?_
          rotate_left
          · (intro w hSw; (try dsimp only at hSw); go_simp; (try with_reducible rfl); done)
          (try simp only [Act.put, List.setIfInBounds_toArray, List.set_cons_zero, List.set_cons_succ])
          refine wpAnyH_take (i := 10) (oi := ⟨some 53, Go.Op.convert 37 9 (Go.Operand.tmp 52), 9, "outright.go:26", #[⟨9, Go.Ground.data⟩, ⟨1, Go.Ground.guard⟩], some (1, true)⟩) (v := ?_) rfl (by kernel_rfl) (by kernel_rfl) (by kernel_rfl) (fun _ _ _ h => h) (Or.inl ⟨by rfl, ?_⟩) (by assumption) ?_
          rotate_left
          · (intro w hSw; (try dsimp only at hSw); go_simp; (try with_reducible rfl); done)
          (try simp only [Act.put, List.setIfInBounds_toArray, List.set_cons_zero, List.set_cons_succ])
          refine wpAnyH_take (i := 13) (oi := ⟨some 56, Go.Op.move (Go.Operand.tmp 5), 3, "outright.go:26", #[⟨1, Go.Ground.guard⟩], some (1, true)⟩) (v := ?_) rfl (by kernel_rfl) (by kernel_rfl) (by kernel_rfl) (fun _ _ _ h => h) (Or.inl ⟨by rfl, ?_⟩) (by assumption) ?_
          rotate_left
          · (intro w hSw; (try dsimp only at hSw); go_simp; (try with_reducible rfl); done)
          (try simp only [Act.put, List.setIfInBounds_toArray, List.set_cons_zero, List.set_cons_succ])
          refine wpAnyH_ready (rs := [4, 14]) (by kernel_rfl) (by simp) ?_
          refine AllReadyH.cons (o := ⟨some 47, Go.Op.call ⟨Go.Callee.value (Go.Operand.func 20), #[Go.Operand.tmp 46], #[9]⟩, 31, "outright.go:26", #[⟨3, Go.Ground.data⟩, ⟨1, Go.Ground.chain⟩, ⟨1, Go.Ground.guard⟩], some (1, true)⟩) rfl (fun K hK => ?_) ?_
          ·
            rw [if_pos (by rfl)]
            go_simp
            (go_at_call 20; (with_reducible refine (K1.out _).mono ?_); rintro e w5 ⟨rfl, rfl⟩)
            refine hK.out _ _ (by assumption) (fun hHeld => ?_)
            clear hK K
            (try simp only [Act.put, List.setIfInBounds_toArray, List.set_cons_zero, List.set_cons_succ])
            refine wpAnyH_ready (rs := [7, 14]) (by kernel_rfl) (by simp) ?_
            refine AllReadyH.cons (o := ⟨some 50, Go.Op.call ⟨Go.Callee.value (Go.Operand.func 20), #[Go.Operand.tmp 49], #[9]⟩, 31, "outright.go:26", #[⟨6, Go.Ground.data⟩, ⟨4, Go.Ground.chain⟩, ⟨1, Go.Ground.guard⟩], some (1, true)⟩) rfl (fun K hK => ?_) ?_
            ·
              rw [if_pos (by rfl)]
              go_simp
              (go_at_call 20; (with_reducible refine (K2.out _).mono ?_); rintro e w5 ⟨rfl, rfl⟩)
              refine hK.out _ _ (by assumption) (fun hHeld => ?_)
              clear hK K
              (try simp only [Act.put, List.setIfInBounds_toArray, List.set_cons_zero, List.set_cons_succ])
              refine wpAnyH_take (i := 8) (oi := ⟨some 51, Go.Op.binOp Go.BinOp.xor 31 (Go.Operand.tmp 47) (Go.Operand.tmp 50) 31, 31, "outright.go:26", #[⟨4, Go.Ground.data⟩, ⟨7, Go.Ground.data⟩, ⟨1, Go.Ground.guard⟩], some (1, true)⟩) (v := ?_) rfl (by kernel_rfl) (by kernel_rfl) (by kernel_rfl) (fun _ _ _ h => h) (Or.inl ⟨by rfl, ?_⟩) (by assumption) ?_
              rotate_left
              · (intro w hSw; (try dsimp only at hSw); go_simp; (try with_reducible rfl); done)
              (try simp only [Act.put, List.setIfInBounds_toArray, List.set_cons_zero, List.set_cons_succ])
              refine wpAnyH_ready (rs := [11, 14]) (by kernel_rfl) (by simp) ?_
              refine AllReadyH.cons (o := ⟨some 54, Go.Op.call ⟨Go.Callee.value (Go.Operand.func 20), #[Go.Operand.tmp 53], #[9]⟩, 31, "outright.go:26", #[⟨10, Go.Ground.data⟩, ⟨7, Go.Ground.chain⟩, ⟨1, Go.Ground.guard⟩], some (1, true)⟩) rfl (fun K hK => ?_) ?_
              ·
                rw [if_pos (by rfl)]
                go_simp
                (go_at_call 20; (with_reducible refine (K3.out _).mono ?_); rintro e w5 ⟨rfl, rfl⟩)
                refine hK.out _ _ (by assumption) (fun hHeld => ?_)
                clear hK K
                (try simp only [Act.put, List.setIfInBounds_toArray, List.set_cons_zero, List.set_cons_succ])
                refine wpAnyH_take (i := 12) (oi := ⟨some 55, Go.Op.binOp Go.BinOp.xor 31 (Go.Operand.tmp 51) (Go.Operand.tmp 54) 31, 31, "outright.go:26", #[⟨8, Go.Ground.data⟩, ⟨11, Go.Ground.data⟩, ⟨1, Go.Ground.guard⟩], some (1, true)⟩) (v := ?_) rfl (by kernel_rfl) (by kernel_rfl) (by kernel_rfl) (fun _ _ _ h => h) (Or.inl ⟨by rfl, ?_⟩) (by assumption) ?_
                rotate_left
                · (intro w hSw; (try dsimp only at hSw); go_simp; (try with_reducible rfl); done)
                (try simp only [Act.put, List.setIfInBounds_toArray, List.set_cons_zero, List.set_cons_succ])
                refine wpAnyH_ready (rs := [14]) (by kernel_rfl) (by simp) ?_
                refine AllReadyH.cons (o := ⟨some 57, Go.Op.makeSlice 37 (Go.Operand.tmp 56) (Go.Operand.tmp 56), 37, "outright.go:26", #[⟨13, Go.Ground.data⟩, ⟨13, Go.Ground.data⟩, ⟨1, Go.Ground.guard⟩], some (1, true)⟩) rfl (fun K hK => ?_) ?_
                ·
                  go_simp
                  refine hK.out _ _ (by exact HT2.out) (fun hHeld => ?_)
                  clear hK K
                  (try simp only [Act.put, List.setIfInBounds_toArray, List.set_cons_zero, List.set_cons_succ])
                  refine wpAnyH_mono (S' := fun W => (convert 37 9 (.slice (some ⟨gx, 0, none⟩) n q1)).run Tryd.prog W = .ok (.string X) W ∧ (convert 37 9 (.slice (some ⟨gy, 0, none⟩) n q2)).run Tryd.prog W = .ok (.string Y) W ∧ (convert 37 9 (.slice (some ⟨gz, 0, none⟩) n n)).run Tryd.prog W = .ok (.string Z) W ∧ (convert 37 9 (.slice (some ⟨w4.heap.size, 0, none⟩) n n)).run Tryd.prog W = .ok (.string O) W) (fun W h => ⟨h.1, h.2.1, h.2.2.1⟩) _ _ _ _ ?_
                  have hHeld4 : (fun W : World => (convert 37 9 (.slice (some ⟨gx, 0, none⟩) n q1)).run Tryd.prog W = .ok (.string X) W ∧ (convert 37 9 (.slice (some ⟨gy, 0, none⟩) n q2)).run Tryd.prog W = .ok (.string Y) W ∧ (convert 37 9 (.slice (some ⟨gz, 0, none⟩) n n)).run Tryd.prog W = .ok (.string Z) W ∧ (convert 37 9 (.slice (some ⟨w4.heap.size, 0, none⟩) n n)).run Tryd.prog W = .ok (.string O) W) (mz w4) := ⟨HT2.out.1, HT2.out.2.1, HT2.out.2.2, HO4.out⟩
                  clear hHeld
                  refine wpAnyH_take (i := 15) (oi := ⟨some 58, Go.Op.convert 37 9 (Go.Operand.tmp 57), 9, "outright.go:26", #[⟨14, Go.Ground.data⟩, ⟨1, Go.Ground.guard⟩], some (1, true)⟩) (v := ?_) rfl (by kernel_rfl) (by kernel_rfl) (by kernel_rfl) (fun _ _ _ h => h) (Or.inl ⟨by rfl, ?_⟩) (by assumption) ?_
                  rotate_left
                  · (intro w hSw; (try dsimp only at hSw); go_simp; (try with_reducible rfl); done)
                  (try simp only [Act.put, List.setIfInBounds_toArray, List.set_cons_zero, List.set_cons_succ])
                  refine wpAnyH_ready (rs := [16]) (by kernel_rfl) (by simp) ?_
                  refine AllReadyH.cons (o := ⟨some 59, Go.Op.call ⟨Go.Callee.value (Go.Operand.func 20), #[Go.Operand.tmp 58], #[9]⟩, 31, "outright.go:26", #[⟨15, Go.Ground.data⟩, ⟨11, Go.Ground.chain⟩, ⟨1, Go.Ground.guard⟩], some (1, true)⟩) rfl (fun K hK => ?_) ?_
                  ·
                    rw [if_pos (by rfl)]
                    go_simp
                    (go_at_call 20; (with_reducible refine (K4.out _).mono ?_); rintro e w5 ⟨rfl, rfl⟩)
                    refine hK.out _ _ (by assumption) (fun hHeld => ?_)
                    clear hK K
                    (try simp only [Act.put, List.setIfInBounds_toArray, List.set_cons_zero, List.set_cons_succ])
                    refine wpAnyH_take (i := 17) (oi := ⟨some 60, Go.Op.binOp Go.BinOp.eql 31 (Go.Operand.tmp 55) (Go.Operand.tmp 59) 31, 4, "outright.go:26", #[⟨12, Go.Ground.data⟩, ⟨16, Go.Ground.data⟩, ⟨1, Go.Ground.guard⟩], some (1, true)⟩) (v := ?_) rfl (by kernel_rfl) (by kernel_rfl) (by kernel_rfl) (fun _ _ _ h => h) (Or.inl ⟨by rfl, ?_⟩) (by assumption) ?_
                    rotate_left
                    · (intro w hSw; (try dsimp only at hSw); go_simp; (try with_reducible rfl); done)
                    (try simp only [Act.put, List.setIfInBounds_toArray, List.set_cons_zero, List.set_cons_succ])
                    refine wpAnyH_take (i := 18) (oi := ⟨some 61, Go.Op.pick (Go.Operand.tmp 44) (Go.Operand.tmp 60) (Go.Operand.const (Go.Value.bool false)), 4, "outright.go:26", #[⟨1, Go.Ground.data⟩, ⟨17, Go.Ground.data⟩], none⟩) (v := ?_) rfl (by kernel_rfl) (by kernel_rfl) (by kernel_rfl) (fun _ _ _ h => h) (Or.inl ⟨by rfl, ?_⟩) (by assumption) ?_
                    rotate_left
                    · (intro w hSw; (try dsimp only at hSw); go_simp; (try with_reducible rfl); done)
                    (try simp only [Act.put, List.setIfInBounds_toArray, List.set_cons_zero, List.set_cons_succ])
                    refine wpAnyH_take (i := 19) (oi := ⟨some 4, Go.Op.assign (Go.Operand.tmp 61), 4, "outright.go:26", #[⟨18, Go.Ground.data⟩, ⟨16, Go.Ground.chain⟩, ⟨0, Go.Ground.phase⟩, ⟨1, Go.Ground.phase⟩, ⟨2, Go.Ground.phase⟩, ⟨3, Go.Ground.phase⟩, ⟨4, Go.Ground.phase⟩, ⟨5, Go.Ground.phase⟩, ⟨6, Go.Ground.phase⟩, ⟨7, Go.Ground.phase⟩, ⟨8, Go.Ground.phase⟩, ⟨9, Go.Ground.phase⟩, ⟨10, Go.Ground.phase⟩, ⟨11, Go.Ground.phase⟩, ⟨12, Go.Ground.phase⟩, ⟨13, Go.Ground.phase⟩, ⟨14, Go.Ground.phase⟩, ⟨15, Go.Ground.phase⟩, ⟨16, Go.Ground.phase⟩, ⟨17, Go.Ground.phase⟩, ⟨18, Go.Ground.phase⟩], none⟩) (v := ?_) rfl (by kernel_rfl) (by kernel_rfl) (by kernel_rfl) (fun _ _ _ h => h) (Or.inl ⟨by rfl, ?_⟩) (by assumption) ?_
                    rotate_left
                    · (intro w hSw; (try dsimp only at hSw); go_simp; (try with_reducible rfl); done)
                    (try simp only [Act.put, List.setIfInBounds_toArray, List.set_cons_zero, List.set_cons_succ])
                    refine wpAnyH_done (by kernel_rfl) ?_ _
                    go_wp2_with fail
                    go_ret
                    exact ⟨rfl, HF.out⟩
                  exact AllReadyH.nil
                exact AllReadyH.nil
              refine AllReadyH.cons (o := ⟨some 57, Go.Op.makeSlice 37 (Go.Operand.tmp 56) (Go.Operand.tmp 56), 37, "outright.go:26", #[⟨13, Go.Ground.data⟩, ⟨13, Go.Ground.data⟩, ⟨1, Go.Ground.guard⟩], some (1, true)⟩) rfl (fun K hK => ?_) ?_
              ·
                go_simp
                refine hK.out _ _ (by exact HT2.out) (fun hHeld => ?_)
                clear hK K
                (try simp only [Act.put, List.setIfInBounds_toArray, List.set_cons_zero, List.set_cons_succ])
                refine wpAnyH_mono (S' := fun W => (convert 37 9 (.slice (some ⟨gx, 0, none⟩) n q1)).run Tryd.prog W = .ok (.string X) W ∧ (convert 37 9 (.slice (some ⟨gy, 0, none⟩) n q2)).run Tryd.prog W = .ok (.string Y) W ∧ (convert 37 9 (.slice (some ⟨gz, 0, none⟩) n n)).run Tryd.prog W = .ok (.string Z) W ∧ (convert 37 9 (.slice (some ⟨w4.heap.size, 0, none⟩) n n)).run Tryd.prog W = .ok (.string O) W) (fun W h => ⟨h.1, h.2.1, h.2.2.1⟩) _ _ _ _ ?_
                have hHeld4 : (fun W : World => (convert 37 9 (.slice (some ⟨gx, 0, none⟩) n q1)).run Tryd.prog W = .ok (.string X) W ∧ (convert 37 9 (.slice (some ⟨gy, 0, none⟩) n q2)).run Tryd.prog W = .ok (.string Y) W ∧ (convert 37 9 (.slice (some ⟨gz, 0, none⟩) n n)).run Tryd.prog W = .ok (.string Z) W ∧ (convert 37 9 (.slice (some ⟨w4.heap.size, 0, none⟩) n n)).run Tryd.prog W = .ok (.string O) W) (mz w4) := ⟨HT2.out.1, HT2.out.2.1, HT2.out.2.2, HO4.out⟩
                clear hHeld
                refine wpAnyH_take (i := 15) (oi := ⟨some 58, Go.Op.convert 37 9 (Go.Operand.tmp 57), 9, "outright.go:26", #[⟨14, Go.Ground.data⟩, ⟨1, Go.Ground.guard⟩], some (1, true)⟩) (v := ?_) rfl (by kernel_rfl) (by kernel_rfl) (by kernel_rfl) (fun _ _ _ h => h) (Or.inl ⟨by rfl, ?_⟩) (by assumption) ?_
                rotate_left
                · (intro w hSw; (try dsimp only at hSw); go_simp; (try with_reducible rfl); done)
                (try simp only [Act.put, List.setIfInBounds_toArray, List.set_cons_zero, List.set_cons_succ])
                refine wpAnyH_ready (rs := [11]) (by kernel_rfl) (by simp) ?_
                refine AllReadyH.cons (o := ⟨some 54, Go.Op.call ⟨Go.Callee.value (Go.Operand.func 20), #[Go.Operand.tmp 53], #[9]⟩, 31, "outright.go:26", #[⟨10, Go.Ground.data⟩, ⟨7, Go.Ground.chain⟩, ⟨1, Go.Ground.guard⟩], some (1, true)⟩) rfl (fun K hK => ?_) ?_
                ·
                  rw [if_pos (by rfl)]
                  go_simp
                  (go_at_call 20; (with_reducible refine (K3.out _).mono ?_); rintro e w5 ⟨rfl, rfl⟩)
                  refine hK.out _ _ (by assumption) (fun hHeld => ?_)
                  clear hK K
                  (try simp only [Act.put, List.setIfInBounds_toArray, List.set_cons_zero, List.set_cons_succ])
                  refine wpAnyH_take (i := 12) (oi := ⟨some 55, Go.Op.binOp Go.BinOp.xor 31 (Go.Operand.tmp 51) (Go.Operand.tmp 54) 31, 31, "outright.go:26", #[⟨8, Go.Ground.data⟩, ⟨11, Go.Ground.data⟩, ⟨1, Go.Ground.guard⟩], some (1, true)⟩) (v := ?_) rfl (by kernel_rfl) (by kernel_rfl) (by kernel_rfl) (fun _ _ _ h => h) (Or.inl ⟨by rfl, ?_⟩) (by assumption) ?_
                  rotate_left
                  · (intro w hSw; (try dsimp only at hSw); go_simp; (try with_reducible rfl); done)
                  (try simp only [Act.put, List.setIfInBounds_toArray, List.set_cons_zero, List.set_cons_succ])
                  refine wpAnyH_ready (rs := [16]) (by kernel_rfl) (by simp) ?_
                  refine AllReadyH.cons (o := ⟨some 59, Go.Op.call ⟨Go.Callee.value (Go.Operand.func 20), #[Go.Operand.tmp 58], #[9]⟩, 31, "outright.go:26", #[⟨15, Go.Ground.data⟩, ⟨11, Go.Ground.chain⟩, ⟨1, Go.Ground.guard⟩], some (1, true)⟩) rfl (fun K hK => ?_) ?_
                  ·
                    rw [if_pos (by rfl)]
                    go_simp
                    (go_at_call 20; (with_reducible refine (K4.out _).mono ?_); rintro e w5 ⟨rfl, rfl⟩)
                    refine hK.out _ _ (by assumption) (fun hHeld => ?_)
                    clear hK K
                    (try simp only [Act.put, List.setIfInBounds_toArray, List.set_cons_zero, List.set_cons_succ])
                    refine wpAnyH_take (i := 17) (oi := ⟨some 60, Go.Op.binOp Go.BinOp.eql 31 (Go.Operand.tmp 55) (Go.Operand.tmp 59) 31, 4, "outright.go:26", #[⟨12, Go.Ground.data⟩, ⟨16, Go.Ground.data⟩, ⟨1, Go.Ground.guard⟩], some (1, true)⟩) (v := ?_) rfl (by kernel_rfl) (by kernel_rfl) (by kernel_rfl) (fun _ _ _ h => h) (Or.inl ⟨by rfl, ?_⟩) (by assumption) ?_
                    rotate_left
                    · (intro w hSw; (try dsimp only at hSw); go_simp; (try with_reducible rfl); done)
                    (try simp only [Act.put, List.setIfInBounds_toArray, List.set_cons_zero, List.set_cons_succ])
                    refine wpAnyH_take (i := 18) (oi := ⟨some 61, Go.Op.pick (Go.Operand.tmp 44) (Go.Operand.tmp 60) (Go.Operand.const (Go.Value.bool false)), 4, "outright.go:26", #[⟨1, Go.Ground.data⟩, ⟨17, Go.Ground.data⟩], none⟩) (v := ?_) rfl (by kernel_rfl) (by kernel_rfl) (by kernel_rfl) (fun _ _ _ h => h) (Or.inl ⟨by rfl, ?_⟩) (by assumption) ?_
                    rotate_left
                    · (intro w hSw; (try dsimp only at hSw); go_simp; (try with_reducible rfl); done)
                    (try simp only [Act.put, List.setIfInBounds_toArray, List.set_cons_zero, List.set_cons_succ])
                    refine wpAnyH_take (i := 19) (oi := ⟨some 4, Go.Op.assign (Go.Operand.tmp 61), 4, "outright.go:26", #[⟨18, Go.Ground.data⟩, ⟨16, Go.Ground.chain⟩, ⟨0, Go.Ground.phase⟩, ⟨1, Go.Ground.phase⟩, ⟨2, Go.Ground.phase⟩, ⟨3, Go.Ground.phase⟩, ⟨4, Go.Ground.phase⟩, ⟨5, Go.Ground.phase⟩, ⟨6, Go.Ground.phase⟩, ⟨7, Go.Ground.phase⟩, ⟨8, Go.Ground.phase⟩, ⟨9, Go.Ground.phase⟩, ⟨10, Go.Ground.phase⟩, ⟨11, Go.Ground.phase⟩, ⟨12, Go.Ground.phase⟩, ⟨13, Go.Ground.phase⟩, ⟨14, Go.Ground.phase⟩, ⟨15, Go.Ground.phase⟩, ⟨16, Go.Ground.phase⟩, ⟨17, Go.Ground.phase⟩, ⟨18, Go.Ground.phase⟩], none⟩) (v := ?_) rfl (by kernel_rfl) (by kernel_rfl) (by kernel_rfl) (fun _ _ _ h => h) (Or.inl ⟨by rfl, ?_⟩) (by assumption) ?_
                    rotate_left
                    · (intro w hSw; (try dsimp only at hSw); go_simp; (try with_reducible rfl); done)
                    (try simp only [Act.put, List.setIfInBounds_toArray, List.set_cons_zero, List.set_cons_succ])
                    refine wpAnyH_done (by kernel_rfl) ?_ _
                    go_wp2_with fail
                    go_ret
                    exact ⟨rfl, HF.out⟩
                  exact AllReadyH.nil
                exact AllReadyH.nil
              exact AllReadyH.nil
            refine AllReadyH.cons (o := ⟨some 57, Go.Op.makeSlice 37 (Go.Operand.tmp 56) (Go.Operand.tmp 56), 37, "outright.go:26", #[⟨13, Go.Ground.data⟩, ⟨13, Go.Ground.data⟩, ⟨1, Go.Ground.guard⟩], some (1, true)⟩) rfl (fun K hK => ?_) ?_
            ·
              go_simp
              refine hK.out _ _ (by exact HT2.out) (fun hHeld => ?_)
              clear hK K
              (try simp only [Act.put, List.setIfInBounds_toArray, List.set_cons_zero, List.set_cons_succ])
              refine wpAnyH_mono (S' := fun W => (convert 37 9 (.slice (some ⟨gx, 0, none⟩) n q1)).run Tryd.prog W = .ok (.string X) W ∧ (convert 37 9 (.slice (some ⟨gy, 0, none⟩) n q2)).run Tryd.prog W = .ok (.string Y) W ∧ (convert 37 9 (.slice (some ⟨gz, 0, none⟩) n n)).run Tryd.prog W = .ok (.string Z) W ∧ (convert 37 9 (.slice (some ⟨w4.heap.size, 0, none⟩) n n)).run Tryd.prog W = .ok (.string O) W) (fun W h => ⟨h.1, h.2.1, h.2.2.1⟩) _ _ _ _ ?_
              have hHeld4 : (fun W : World => (convert 37 9 (.slice (some ⟨gx, 0, none⟩) n q1)).run Tryd.prog W = .ok (.string X) W ∧ (convert 37 9 (.slice (some ⟨gy, 0, none⟩) n q2)).run Tryd.prog W = .ok (.string Y) W ∧ (convert 37 9 (.slice (some ⟨gz, 0, none⟩) n n)).run Tryd.prog W = .ok (.string Z) W ∧ (convert 37 9 (.slice (some ⟨w4.heap.size, 0, none⟩) n n)).run Tryd.prog W = .ok (.string O) W) (mz w4) := ⟨HT2.out.1, HT2.out.2.1, HT2.out.2.2, HO4.out⟩
              clear hHeld
              refine wpAnyH_take (i := 15) (oi := ⟨some 58, Go.Op.convert 37 9 (Go.Operand.tmp 57), 9, "outright.go:26", #[⟨14, Go.Ground.data⟩, ⟨1, Go.Ground.guard⟩], some (1, true)⟩) (v := ?_) rfl (by kernel_rfl) (by kernel_rfl) (by kernel_rfl) (fun _ _ _ h => h) (Or.inl ⟨by rfl, ?_⟩) (by assumption) ?_
              rotate_left
              · (intro w hSw; (try dsimp only at hSw); go_simp; (try with_reducible rfl); done)
              (try simp only [Act.put, List.setIfInBounds_toArray, List.set_cons_zero, List.set_cons_succ])
              refine wpAnyH_ready (rs := [7]) (by kernel_rfl) (by simp) ?_
              refine AllReadyH.cons (o := ⟨some 50, Go.Op.call ⟨Go.Callee.value (Go.Operand.func 20), #[Go.Operand.tmp 49], #[9]⟩, 31, "outright.go:26", #[⟨6, Go.Ground.data⟩, ⟨4, Go.Ground.chain⟩, ⟨1, Go.Ground.guard⟩], some (1, true)⟩) rfl (fun K hK => ?_) ?_
              ·
                rw [if_pos (by rfl)]
                go_simp
                (go_at_call 20; (with_reducible refine (K2.out _).mono ?_); rintro e w5 ⟨rfl, rfl⟩)
                refine hK.out _ _ (by assumption) (fun hHeld => ?_)
                clear hK K
                (try simp only [Act.put, List.setIfInBounds_toArray, List.set_cons_zero, List.set_cons_succ])
                refine wpAnyH_take (i := 8) (oi := ⟨some 51, Go.Op.binOp Go.BinOp.xor 31 (Go.Operand.tmp 47) (Go.Operand.tmp 50) 31, 31, "outright.go:26", #[⟨4, Go.Ground.data⟩, ⟨7, Go.Ground.data⟩, ⟨1, Go.Ground.guard⟩], some (1, true)⟩) (v := ?_) rfl (by kernel_rfl) (by kernel_rfl) (by kernel_rfl) (fun _ _ _ h => h) (Or.inl ⟨by rfl, ?_⟩) (by assumption) ?_
                rotate_left
                · (intro w hSw; (try dsimp only at hSw); go_simp; (try with_reducible rfl); done)
                (try simp only [Act.put, List.setIfInBounds_toArray, List.set_cons_zero, List.set_cons_succ])
                refine wpAnyH_ready (rs := [11]) (by kernel_rfl) (by simp) ?_
                refine AllReadyH.cons (o := ⟨some 54, Go.Op.call ⟨Go.Callee.value (Go.Operand.func 20), #[Go.Operand.tmp 53], #[9]⟩, 31, "outright.go:26", #[⟨10, Go.Ground.data⟩, ⟨7, Go.Ground.chain⟩, ⟨1, Go.Ground.guard⟩], some (1, true)⟩) rfl (fun K hK => ?_) ?_
                ·
                  rw [if_pos (by rfl)]
                  go_simp
                  (go_at_call 20; (with_reducible refine (K3.out _).mono ?_); rintro e w5 ⟨rfl, rfl⟩)
                  refine hK.out _ _ (by assumption) (fun hHeld => ?_)
                  clear hK K
                  (try simp only [Act.put, List.setIfInBounds_toArray, List.set_cons_zero, List.set_cons_succ])
                  refine wpAnyH_take (i := 12) (oi := ⟨some 55, Go.Op.binOp Go.BinOp.xor 31 (Go.Operand.tmp 51) (Go.Operand.tmp 54) 31, 31, "outright.go:26", #[⟨8, Go.Ground.data⟩, ⟨11, Go.Ground.data⟩, ⟨1, Go.Ground.guard⟩], some (1, true)⟩) (v := ?_) rfl (by kernel_rfl) (by kernel_rfl) (by kernel_rfl) (fun _ _ _ h => h) (Or.inl ⟨by rfl, ?_⟩) (by assumption) ?_
                  rotate_left
                  · (intro w hSw; (try dsimp only at hSw); go_simp; (try with_reducible rfl); done)
                  (try simp only [Act.put, List.setIfInBounds_toArray, List.set_cons_zero, List.set_cons_succ])
                  refine wpAnyH_ready (rs := [16]) (by kernel_rfl) (by simp) ?_
                  refine AllReadyH.cons (o := ⟨some 59, Go.Op.call ⟨Go.Callee.value (Go.Operand.func 20), #[Go.Operand.tmp 58], #[9]⟩, 31, "outright.go:26", #[⟨15, Go.Ground.data⟩, ⟨11, Go.Ground.chain⟩, ⟨1, Go.Ground.guard⟩], some (1, true)⟩) rfl (fun K hK => ?_) ?_
                  ·
                    rw [if_pos (by rfl)]
                    go_simp
                    (go_at_call 20; (with_reducible refine (K4.out _).mono ?_); rintro e w5 ⟨rfl, rfl⟩)
                    refine hK.out _ _ (by assumption) (fun hHeld => ?_)
                    clear hK K
                    (try simp only [Act.put, List.setIfInBounds_toArray, List.set_cons_zero, List.set_cons_succ])
                    refine wpAnyH_take (i := 17) (oi := ⟨some 60, Go.Op.binOp Go.BinOp.eql 31 (Go.Operand.tmp 55) (Go.Operand.tmp 59) 31, 4, "outright.go:26", #[⟨12, Go.Ground.data⟩, ⟨16, Go.Ground.data⟩, ⟨1, Go.Ground.guard⟩], some (1, true)⟩) (v := ?_) rfl (by kernel_rfl) (by kernel_rfl) (by kernel_rfl) (fun _ _ _ h => h) (Or.inl ⟨by rfl, ?_⟩) (by assumption) ?_
                    rotate_left
                    · (intro w hSw; (try dsimp only at hSw); go_simp; (try with_reducible rfl); done)
                    (try simp only [Act.put, List.setIfInBounds_toArray, List.set_cons_zero, List.set_cons_succ])
                    refine wpAnyH_take (i := 18) (oi := ⟨some 61, Go.Op.pick (Go.Operand.tmp 44) (Go.Operand.tmp 60) (Go.Operand.const (Go.Value.bool false)), 4, "outright.go:26", #[⟨1, Go.Ground.data⟩, ⟨17, Go.Ground.data⟩], none⟩) (v := ?_) rfl (by kernel_rfl) (by kernel_rfl) (by kernel_rfl) (fun _ _ _ h => h) (Or.inl ⟨by rfl, ?_⟩) (by assumption) ?_
                    rotate_left
                    · (intro w hSw; (try dsimp only at hSw); go_simp; (try with_reducible rfl); done)
                    (try simp only [Act.put, List.setIfInBounds_toArray, List.set_cons_zero, List.set_cons_succ])
                    refine wpAnyH_take (i := 19) (oi := ⟨some 4, Go.Op.assign (Go.Operand.tmp 61), 4, "outright.go:26", #[⟨18, Go.Ground.data⟩, ⟨16, Go.Ground.chain⟩, ⟨0, Go.Ground.phase⟩, ⟨1, Go.Ground.phase⟩, ⟨2, Go.Ground.phase⟩, ⟨3, Go.Ground.phase⟩, ⟨4, Go.Ground.phase⟩, ⟨5, Go.Ground.phase⟩, ⟨6, Go.Ground.phase⟩, ⟨7, Go.Ground.phase⟩, ⟨8, Go.Ground.phase⟩, ⟨9, Go.Ground.phase⟩, ⟨10, Go.Ground.phase⟩, ⟨11, Go.Ground.phase⟩, ⟨12, Go.Ground.phase⟩, ⟨13, Go.Ground.phase⟩, ⟨14, Go.Ground.phase⟩, ⟨15, Go.Ground.phase⟩, ⟨16, Go.Ground.phase⟩, ⟨17, Go.Ground.phase⟩, ⟨18, Go.Ground.phase⟩], none⟩) (v := ?_) rfl (by kernel_rfl) (by kernel_rfl) (by kernel_rfl) (fun _ _ _ h => h) (Or.inl ⟨by rfl, ?_⟩) (by assumption) ?_
                    rotate_left
                    · (intro w hSw; (try dsimp only at hSw); go_simp; (try with_reducible rfl); done)
                    (try simp only [Act.put, List.setIfInBounds_toArray, List.set_cons_zero, List.set_cons_succ])
                    refine wpAnyH_done (by kernel_rfl) ?_ _
                    go_wp2_with fail
                    go_ret
                    exact ⟨rfl, HF.out⟩
                  exact AllReadyH.nil
                exact AllReadyH.nil
              exact AllReadyH.nil
            exact AllReadyH.nil
          refine AllReadyH.cons (o := ⟨some 57, Go.Op.makeSlice 37 (Go.Operand.tmp 56) (Go.Operand.tmp 56), 37, "outright.go:26", #[⟨13, Go.Ground.data⟩, ⟨13, Go.Ground.data⟩, ⟨1, Go.Ground.guard⟩], some (1, true)⟩) rfl (fun K hK => ?_) ?_
          ·
            go_simp
            refine hK.out _ _ (by exact HT2.out) (fun hHeld => ?_)
            clear hK K
            (try simp only [Act.put, List.setIfInBounds_toArray, List.set_cons_zero, List.set_cons_succ])
            refine wpAnyH_mono (S' := fun W => (convert 37 9 (.slice (some ⟨gx, 0, none⟩) n q1)).run Tryd.prog W = .ok (.string X) W ∧ (convert 37 9 (.slice (some ⟨gy, 0, none⟩) n q2)).run Tryd.prog W = .ok (.string Y) W ∧ (convert 37 9 (.slice (some ⟨gz, 0, none⟩) n n)).run Tryd.prog W = .ok (.string Z) W ∧ (convert 37 9 (.slice (some ⟨w4.heap.size, 0, none⟩) n n)).run Tryd.prog W = .ok (.string O) W) (fun W h => ⟨h.1, h.2.1, h.2.2.1⟩) _ _ _ _ ?_
            have hHeld4 : (fun W : World => (convert 37 9 (.slice (some ⟨gx, 0, none⟩) n q1)).run Tryd.prog W = .ok (.string X) W ∧ (convert 37 9 (.slice (some ⟨gy, 0, none⟩) n q2)).run Tryd.prog W = .ok (.string Y) W ∧ (convert 37 9 (.slice (some ⟨gz, 0, none⟩) n n)).run Tryd.prog W = .ok (.string Z) W ∧ (convert 37 9 (.slice (some ⟨w4.heap.size, 0, none⟩) n n)).run Tryd.prog W = .ok (.string O) W) (mz w4) := ⟨HT2.out.1, HT2.out.2.1, HT2.out.2.2, HO4.out⟩
            clear hHeld
            refine wpAnyH_take (i := 15) (oi := ⟨some 58, Go.Op.convert 37 9 (Go.Operand.tmp 57), 9, "outright.go:26", #[⟨14, Go.Ground.data⟩, ⟨1, Go.Ground.guard⟩], some (1, true)⟩) (v := ?_) rfl (by kernel_rfl) (by kernel_rfl) (by kernel_rfl) (fun _ _ _ h => h) (Or.inl ⟨by rfl, ?_⟩) (by assumption) ?_
            rotate_left
            · (intro w hSw; (try dsimp only at hSw); go_simp; (try with_reducible rfl); done)
            (try simp only [Act.put, List.setIfInBounds_toArray, List.set_cons_zero, List.set_cons_succ])
            refine wpAnyH_ready (rs := [4]) (by kernel_rfl) (by simp) ?_
            refine AllReadyH.cons (o := ⟨some 47, Go.Op.call ⟨Go.Callee.value (Go.Operand.func 20), #[Go.Operand.tmp 46], #[9]⟩, 31, "outright.go:26", #[⟨3, Go.Ground.data⟩, ⟨1, Go.Ground.chain⟩, ⟨1, Go.Ground.guard⟩], some (1, true)⟩) rfl (fun K hK => ?_) ?_
            ·
              rw [if_pos (by rfl)]
              go_simp
              (go_at_call 20; (with_reducible refine (K1.out _).mono ?_); rintro e w5 ⟨rfl, rfl⟩)
              refine hK.out _ _ (by assumption) (fun hHeld => ?_)
              clear hK K
              (try simp only [Act.put, List.setIfInBounds_toArray, List.set_cons_zero, List.set_cons_succ])
              refine wpAnyH_ready (rs := [7]) (by kernel_rfl) (by simp) ?_
              refine AllReadyH.cons (o := ⟨some 50, Go.Op.call ⟨Go.Callee.value (Go.Operand.func 20), #[Go.Operand.tmp 49], #[9]⟩, 31, "outright.go:26", #[⟨6, Go.Ground.data⟩, ⟨4, Go.Ground.chain⟩, ⟨1, Go.Ground.guard⟩], some (1, true)⟩) rfl (fun K hK => ?_) ?_
              ·
                rw [if_pos (by rfl)]
                go_simp
                (go_at_call 20; (with_reducible refine (K2.out _).mono ?_); rintro e w5 ⟨rfl, rfl⟩)
                refine hK.out _ _ (by assumption) (fun hHeld => ?_)
                clear hK K
                (try simp only [Act.put, List.setIfInBounds_toArray, List.set_cons_zero, List.set_cons_succ])
                refine wpAnyH_take (i := 8) (oi := ⟨some 51, Go.Op.binOp Go.BinOp.xor 31 (Go.Operand.tmp 47) (Go.Operand.tmp 50) 31, 31, "outright.go:26", #[⟨4, Go.Ground.data⟩, ⟨7, Go.Ground.data⟩, ⟨1, Go.Ground.guard⟩], some (1, true)⟩) (v := ?_) rfl (by kernel_rfl) (by kernel_rfl) (by kernel_rfl) (fun _ _ _ h => h) (Or.inl ⟨by rfl, ?_⟩) (by assumption) ?_
                rotate_left
                · (intro w hSw; (try dsimp only at hSw); go_simp; (try with_reducible rfl); done)
                (try simp only [Act.put, List.setIfInBounds_toArray, List.set_cons_zero, List.set_cons_succ])
                refine wpAnyH_ready (rs := [11]) (by kernel_rfl) (by simp) ?_
                refine AllReadyH.cons (o := ⟨some 54, Go.Op.call ⟨Go.Callee.value (Go.Operand.func 20), #[Go.Operand.tmp 53], #[9]⟩, 31, "outright.go:26", #[⟨10, Go.Ground.data⟩, ⟨7, Go.Ground.chain⟩, ⟨1, Go.Ground.guard⟩], some (1, true)⟩) rfl (fun K hK => ?_) ?_
                ·
                  rw [if_pos (by rfl)]
                  go_simp
                  (go_at_call 20; (with_reducible refine (K3.out _).mono ?_); rintro e w5 ⟨rfl, rfl⟩)
                  refine hK.out _ _ (by assumption) (fun hHeld => ?_)
                  clear hK K
                  (try simp only [Act.put, List.setIfInBounds_toArray, List.set_cons_zero, List.set_cons_succ])
                  refine wpAnyH_take (i := 12) (oi := ⟨some 55, Go.Op.binOp Go.BinOp.xor 31 (Go.Operand.tmp 51) (Go.Operand.tmp 54) 31, 31, "outright.go:26", #[⟨8, Go.Ground.data⟩, ⟨11, Go.Ground.data⟩, ⟨1, Go.Ground.guard⟩], some (1, true)⟩) (v := ?_) rfl (by kernel_rfl) (by kernel_rfl) (by kernel_rfl) (fun _ _ _ h => h) (Or.inl ⟨by rfl, ?_⟩) (by assumption) ?_
                  rotate_left
                  · (intro w hSw; (try dsimp only at hSw); go_simp; (try with_reducible rfl); done)
                  (try simp only [Act.put, List.setIfInBounds_toArray, List.set_cons_zero, List.set_cons_succ])
                  refine wpAnyH_ready (rs := [16]) (by kernel_rfl) (by simp) ?_
                  refine AllReadyH.cons (o := ⟨some 59, Go.Op.call ⟨Go.Callee.value (Go.Operand.func 20), #[Go.Operand.tmp 58], #[9]⟩, 31, "outright.go:26", #[⟨15, Go.Ground.data⟩, ⟨11, Go.Ground.chain⟩, ⟨1, Go.Ground.guard⟩], some (1, true)⟩) rfl (fun K hK => ?_) ?_
                  ·
                    rw [if_pos (by rfl)]
                    go_simp
                    (go_at_call 20; (with_reducible refine (K4.out _).mono ?_); rintro e w5 ⟨rfl, rfl⟩)
                    refine hK.out _ _ (by assumption) (fun hHeld => ?_)
                    clear hK K
                    (try simp only [Act.put, List.setIfInBounds_toArray, List.set_cons_zero, List.set_cons_succ])
                    refine wpAnyH_take (i := 17) (oi := ⟨some 60, Go.Op.binOp Go.BinOp.eql 31 (Go.Operand.tmp 55) (Go.Operand.tmp 59) 31, 4, "outright.go:26", #[⟨12, Go.Ground.data⟩, ⟨16, Go.Ground.data⟩, ⟨1, Go.Ground.guard⟩], some (1, true)⟩) (v := ?_) rfl (by kernel_rfl) (by kernel_rfl) (by kernel_rfl) (fun _ _ _ h => h) (Or.inl ⟨by rfl, ?_⟩) (by assumption) ?_
                    rotate_left
                    · (intro w hSw; (try dsimp only at hSw); go_simp; (try with_reducible rfl); done)
                    (try simp only [Act.put, List.setIfInBounds_toArray, List.set_cons_zero, List.set_cons_succ])
                    refine wpAnyH_take (i := 18) (oi := ⟨some 61, Go.Op.pick (Go.Operand.tmp 44) (Go.Operand.tmp 60) (Go.Operand.const (Go.Value.bool false)), 4, "outright.go:26", #[⟨1, Go.Ground.data⟩, ⟨17, Go.Ground.data⟩], none⟩) (v := ?_) rfl (by kernel_rfl) (by kernel_rfl) (by kernel_rfl) (fun _ _ _ h => h) (Or.inl ⟨by rfl, ?_⟩) (by assumption) ?_
                    rotate_left
                    · (intro w hSw; (try dsimp only at hSw); go_simp; (try with_reducible rfl); done)
                    (try simp only [Act.put, List.setIfInBounds_toArray, List.set_cons_zero, List.set_cons_succ])
                    refine wpAnyH_take (i := 19) (oi := ⟨some 4, Go.Op.assign (Go.Operand.tmp 61), 4, "outright.go:26", #[⟨18, Go.Ground.data⟩, ⟨16, Go.Ground.chain⟩, ⟨0, Go.Ground.phase⟩, ⟨1, Go.Ground.phase⟩, ⟨2, Go.Ground.phase⟩, ⟨3, Go.Ground.phase⟩, ⟨4, Go.Ground.phase⟩, ⟨5, Go.Ground.phase⟩, ⟨6, Go.Ground.phase⟩, ⟨7, Go.Ground.phase⟩, ⟨8, Go.Ground.phase⟩, ⟨9, Go.Ground.phase⟩, ⟨10, Go.Ground.phase⟩, ⟨11, Go.Ground.phase⟩, ⟨12, Go.Ground.phase⟩, ⟨13, Go.Ground.phase⟩, ⟨14, Go.Ground.phase⟩, ⟨15, Go.Ground.phase⟩, ⟨16, Go.Ground.phase⟩, ⟨17, Go.Ground.phase⟩, ⟨18, Go.Ground.phase⟩], none⟩) (v := ?_) rfl (by kernel_rfl) (by kernel_rfl) (by kernel_rfl) (fun _ _ _ h => h) (Or.inl ⟨by rfl, ?_⟩) (by assumption) ?_
                    rotate_left
                    · (intro w hSw; (try dsimp only at hSw); go_simp; (try with_reducible rfl); done)
                    (try simp only [Act.put, List.setIfInBounds_toArray, List.set_cons_zero, List.set_cons_succ])
                    refine wpAnyH_done (by kernel_rfl) ?_ _
                    go_wp2_with fail
                    go_ret
                    exact ⟨rfl, HF.out⟩
                  exact AllReadyH.nil
                exact AllReadyH.nil
              exact AllReadyH.nil
            exact AllReadyH.nil
          exact AllReadyH.nil
        exact AllReadyH.nil
theorem sums_any (A B : ByteArray) (w : World) (hg : Gl w) : Calls Tryd.prog 7 #[.string A, .string B] w (RetT w) := by
  obtain ⟨n, hn⟩ : ∃ n, n = min (min A.size B.size) 200 := ⟨_, rfl⟩
  have hA : n ≤ A.size := by omega
  have hB : n ≤ B.size := by omega
  refine sums_in A B (A.extract 0 n) (B.extract 0 n) (A.extract 0 n).data.toList (B.extract 0 n).data.toList n w hg (str_of _).symm (str_of _).symm ?_ ?_ (by omega) hA hB hn rfl rfl
  · have : (A.extract 0 n).size = n := by rw [ByteArray.size_extract]; omega
    rw [Array.length_toList]; exact this
  · have : (B.extract 0 n).size = n := by rw [ByteArray.size_extract]; omega
    rw [Array.length_toList]; exact this
end Go.Proofs.YtjlfoiocceepjaaDoor
