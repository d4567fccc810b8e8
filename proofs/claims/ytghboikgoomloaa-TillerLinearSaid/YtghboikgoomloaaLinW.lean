/-
  TillerLinear's walk.
-/
import Derived.Test.YtghboikgoomloaaLinF
import Derived.Deep.LoopGhost
namespace Go.Proofs.Ytghboikgoomloaa.PTillerLinear
open Go.RowKit Go.Proofs.YtghboikgoomloaaW.PrintWords Go.Proofs.YtghboikgoomloaaW.PrintLast Go.Proofs.YtghboikgoomloaaW.PrintMore
set_option linter.unusedVariables false

theorem C_two {w : World} {b : Nat} {x y : Int} {t : TypeId} (h : Blk w b t #[.int .i32 x, .int .i32 y]) : K32.C w (some ⟨b, 0, none⟩) [x, y].length [x, y] := by
  refine Kd.C_of_reads (d := (0 : Int)) (h1 := fun _ => rfl) ⟨rfl, by simp, fun _ => ⟨⟨b, 0, none⟩, rfl, fun j hj => ?_⟩⟩
  have hc := h.cell j
  match j, hj with
  | 0, _ => simpa [Addr.add] using hc
  | 1, _ => simpa [Addr.add] using hc
theorem R_C {w : World} {B n c : Nat} {A : Option Addr} {xs : List Int} (h : K32.R 25 w B All (.slice A n c) xs) : n = xs.length ∧ n ≤ c ∧ K32.C w A xs.length xs := Kd.R_reads' h
theorem R_cap {w : World} {B n c : Nat} {A : Option Addr} {xs : List Int} (h : K32.R 25 w B All (.slice A n c) xs) : c ≤ 9223372036854775807 := by
  obtain ⟨inner, ho⟩ := Kd.R_own h
  rcases ho.2 with ⟨h1, _⟩ | ⟨g, cap, cur, h1, _, _, _, h2, _⟩
  · cases h1; omega
  · cases h1; simp only [maxLen] at h2; omega
theorem R_at {w : World} {B c r g : Nat} {xs : List Int} (h : K32.R 25 w B All (.slice (some ⟨g, 0, none⟩) r c) xs) (hl : xs.length = r) (i : Nat) (hi : i < r) : w.cell? ⟨g, i, none⟩ = some (.int .i32 (rd xs (i : Int))) := by
  subst hl
  have := (Kd.R_cell (0 : Int) h (i : Int) (by omega) (by omega)).1
  simp only [Int.toNat_natCast] at this
  rw [this]; rfl

def TrueNew (w : World) (e : Ending) (w' : World) : Prop := e = .returned (.bool true) ∧ Below w.heap.size w w'

/-- what the loop finds -/
structure Lin (w V : World) (r cc : Nat) (A2 : Option Addr) (c2 : Nat) (q : List Int) (B3 : Option Addr) (d3 : Nat) (u : List Int) (g7 g8 g9 c8 : Nat) : Prop where
  m : Blk V w.heap.size 24 #[.int .i64 (r : Int), .int .i64 (cc : Int), .slice A2 q.length c2]
  p : Blk V g9 24 #[.int .i64 (r : Int), .int .i64 1, .slice (some ⟨g8, 0, none⟩) r c8]
  cq : K32.C V A2 q.length q
  cu : K32.C V B3 u.length u
  x : ∀ i, i < r → V.cell? ⟨g7, i, none⟩ = some (.int .i32 (dotv (rowOf q cc i) u))
  d : ∀ i, i < r → V.cell? ⟨g8, i, none⟩ = some (.int .i32 (dotv (rowOf q cc i) u))
  all : Below w.heap.size w V
  l7 : g7 < V.heap.size
  l8 : g8 < V.heap.size
theorem Lin.out {w V V' : World} {r cc : Nat} {A2 : Option Addr} {c2 : Nat} {q : List Int} {B3 : Option Addr} {d3 : Nat} {u : List Int} {g7 g8 g9 c8 : Nat} (h : Lin w V r cc A2 c2 q B3 d3 u g7 g8 g9 c8) (hb : Below V.heap.size V V') : Lin w V' r cc A2 c2 q B3 d3 u g7 g8 g9 c8 :=
  ⟨h.m.out hb, h.p.out hb, Kd.C_below h.cq hb, Kd.C_below h.cu hb, fun i hi => (hb.cell (p := ⟨g7, i, none⟩) h.l7).trans (h.x i hi), fun i hi => (hb.cell (p := ⟨g8, i, none⟩) h.l8).trans (h.d i hi), h.all.trans (hb.mono h.all.size), Nat.lt_of_lt_of_le h.l7 hb.size, Nat.lt_of_lt_of_le h.l8 hb.size⟩

set_option maxRecDepth 100000 in
set_option maxHeartbeats 4000000 in
theorem linear_any (R C : Int) (A B : Option Addr) (c d : Nat) (l v : List Int) (w : World) (hr : K32.C w A l.length l) (hc : l.length ≤ c) (hcm : c ≤ 9223372036854775807) (hrv : K32.C w B v.length v) (hd : v.length ≤ d) (hdm : d ≤ 9223372036854775807) :
    Calls Try.prog 3 #[.agg #[.int .i64 R, .int .i64 C, .slice A l.length c], .slice B v.length d] w (TrueNew w) := by
  obtain ⟨q, hq⟩ : ∃ q, q = l.take 2000 := ⟨_, rfl⟩
  obtain ⟨u, hu⟩ : ∃ u, u = v.take 200 := ⟨_, rfl⟩
  have H1 := Lib.hid (fun V (hV : Below w.heap.size w V) => few4_any R C A c l V (Kd.C_below hr hV) hc hcm)
  have H2 := Lib.hid (fun V (hV : Below w.heap.size w V) => few3_any B d v 200 (by omega) V (Kd.C_below hrv hV) hd hdm)
  rw [← hq] at H1
  rw [← hu] at H2
  have hql : q.length ≤ 2000 := by rw [hq, List.length_take]; omega
  have hul : u.length ≤ 200 := by rw [hu, List.length_take]; omega
  have HD := Lib.hid dot_first
  have hu24 := Try.underlying24
  clear hq hu hr hrv
  by_cases hbad : chk R C q ≠ 0 ∨ (u.length : Int) ≠ C
  · obtain ⟨er, her, hap⟩ := apply_bad q u R C hbad 2 (by omega)
    have HAP := Lib.hid hap
    have he1 : (er != 0) = true := bne_iff_ne.2 her
    have he2 : (er == 0) = false := beq_eq_false_iff_ne.2 her
    clear hbad her hap
    go_enter Try.func3, Try.ntmps3
    go_wp2_with (first
      | (go_at_call 4; refine (vec_Dot.calls 10 (some ⟨w.heap.size + 1, 0, none⟩) 2 [65536, 32768] (some ⟨w.heap.size + 1 + 1, 0, none⟩) 2 [65536, 65536] 98304 0 _ (C_two (((Blk.new _ 25 #[.int .i32 65536, .int .i32 32768] _ (by simp)).alloc _))) (by decide) (C_two (Blk.new _ 25 #[.int .i32 65536, .int .i32 65536] _ (by simp))) (by decide) HD.out).mono ?_; rintro e w1 ⟨rfl, hb⟩; have HB0 := Lib.hid ((((Blk.new w 24 #[.int .i64 R, .int .i64 C, .slice A l.length c] _ rfl).alloc _).alloc _).out hb); have HO := Lib.hid (((((Below.refl w.heap.size w).alloc (Nat.le_refl _) (.cells #[.int .i64 R, .int .i64 C, .slice A l.length c] 24)).alloc (by simp) (.cells #[.int .i32 65536, .int .i32 32768] 25)).alloc (by simp <;> omega) (.cells #[.int .i32 65536, .int .i32 65536] 25)).trans (hb.mono (by simp <;> omega))); have hz1 := hb.size; simp at hz1; have b0 := HB0.out.cell 0; have b1 := HB0.out.cell 1; have b2 := HB0.out.cell 2; have f0 := HB0.out.frozen 0; have f1 := HB0.out.frozen 1; have f2 := HB0.out.frozen 2; simp at b0 b1 b2; clear hb)
      | (go_at_call 5; refine (H1.out _ HO.out).mono ?_; rintro e w2 ⟨v2, rfl, ho, hb⟩; obtain ⟨A2, c2, rfl⟩ := Kd.R_slice ho; have HR2 := Lib.hid (Kd.R_lower ho (show w.heap.size + 1 ≤ _ by omega)); have HO2 := Lib.hid (HO.out.trans (hb.mono (by omega))); have HB2 := Lib.hid (HB0.out.out hb); have hz2 := hb.size; clear ho hb b0 b1 b2 f0 f1 f2)
      | (go_at_call 6; refine (H2.out _ HO2.out).mono ?_; rintro e w3 ⟨v3, rfl, ho, hb⟩; obtain ⟨B3, d3, rfl⟩ := Kd.R_slice ho; have HR3 := Lib.hid (Kd.R_lower ho (show w.heap.size + 1 ≤ _ by omega)); have HR23 := Lib.hid (Kd.R_below HR2.out hb); have HO3 := Lib.hid (HO2.out.trans (hb.mono (by omega))); have HB3 := Lib.hid (HB2.out.out hb); clear ho hb)
      | (refine wpList_store_part _ rfl (.tmp 2) (.tmp 30) 24 rfl w.heap.size 0 #[.int .i64 R, .int .i64 C, .slice A2 q.length c2] rfl rfl size24 rfl 24 _ HB3.out (by simp) #[.int .i64 R, .int .i64 C, .slice A2 q.length c2] (by simp) ?_; intro w4 hb4 hfr; have HB4 := Lib.hid hb4; have HO4 := Lib.hid (HO3.out.trans (hfr.below (Nat.le_refl _))); have HC4 := Lib.hid (And.intro (R_C (R_far_all HR23.out hfr (by omega))).2.2 (And.intro (R_C HR23.out).2.1 (And.intro (R_C (R_far_all HR3.out hfr (by omega))).2.2 (R_C HR3.out).2.1))); have b0 := HB4.out.cell 0; have b1 := HB4.out.cell 1; have b2 := HB4.out.cell 2; have f0 := HB4.out.frozen 0; have f1 := HB4.out.frozen 1; have f2 := HB4.out.frozen 2; simp at b0 b1 b2; clear hb4 hfr)
      | (go_at_call 7; refine (mat_Apply.calls 2 R C A2 c2 q B3 d3 u [] er _ HC4.out.1 HC4.out.2.1 HC4.out.2.2.1 HC4.out.2.2.2 HAP.out).mono ?_; rintro e w7 ⟨v7, rfl, ho7, hb7⟩; obtain ⟨A7, c7, rfl⟩ := Kd.R_slice ho7; have HO7 := Lib.hid (HO4.out.trans (hb7.mono HO4.out.size)); clear ho7 hb7)
      | fail)
    go_ret
    exact ⟨rfl, HO7.out⟩
  · have hk0 : chk R C q = 0 := by by_cases h : chk R C q = 0; exact h; exact absurd (.inl h) hbad
    have huc : (u.length : Int) = C := by by_cases h : (u.length : Int) = C; exact h; exact absurd (.inr h) hbad
    obtain ⟨r, cc, rfl, rfl, hr1, hr2, hc1, hc2, hlq⟩ := chk_zero hk0
    have huc' : u.length = cc := by omega
    have HA := Lib.hid (apply_some q u (r : Int) (cc : Int) r cc rfl rfl hk0 hr2 hc2 hlq huc' (r + cc + 3) (Nat.le_refl _))
    have HT := Lib.hid (times_some q u (r : Int) (cc : Int) r cc rfl rfl hk0 hr2 hc2 hc1 hlq huc' (r + cc + 6) (Nat.le_refl _))
    have HK := Lib.hid (And.intro hk0 hlq)
    have HU := Lib.hid huc'
    obtain ⟨O, hO⟩ : ∃ O, O = outs q u cc r 0 := ⟨_, rfl⟩
    rw [← hO] at HA HT
    have HOl : Hid (O.length = r) := Lib.hid (by rw [hO, outs_length])
    have HOg : Hid (∀ i, i < r → rd O (i : Int) = dotv (rowOf q cc i) u) := Lib.hid (fun i hi => by rw [hO, outs_get _ _ _ _ _ _ hi, Nat.zero_add])
    have hd0 : ¬ (r = 0) := by omega
    clear hbad hk0 huc huc' hlq hO
    go_enter Try.func3, Try.ntmps3
    go_wp2_with (first
      | (go_at_call 4; refine (vec_Dot.calls 10 (some ⟨w.heap.size + 1, 0, none⟩) 2 [65536, 32768] (some ⟨w.heap.size + 1 + 1, 0, none⟩) 2 [65536, 65536] 98304 0 _ (C_two (((Blk.new _ 25 #[.int .i32 65536, .int .i32 32768] _ (by simp)).alloc _))) (by decide) (C_two (Blk.new _ 25 #[.int .i32 65536, .int .i32 65536] _ (by simp))) (by decide) HD.out).mono ?_; rintro e w1 ⟨rfl, hb⟩; have HB0 := Lib.hid ((((Blk.new w 24 #[.int .i64 (r : Int), .int .i64 (cc : Int), .slice A l.length c] _ rfl).alloc _).alloc _).out hb); have HO := Lib.hid (((((Below.refl w.heap.size w).alloc (Nat.le_refl _) (.cells #[.int .i64 (r : Int), .int .i64 (cc : Int), .slice A l.length c] 24)).alloc (by simp) (.cells #[.int .i32 65536, .int .i32 32768] 25)).alloc (by simp <;> omega) (.cells #[.int .i32 65536, .int .i32 65536] 25)).trans (hb.mono (by simp <;> omega))); have hz1 := hb.size; simp at hz1; have b0 := HB0.out.cell 0; have b1 := HB0.out.cell 1; have b2 := HB0.out.cell 2; have f0 := HB0.out.frozen 0; have f1 := HB0.out.frozen 1; have f2 := HB0.out.frozen 2; simp at b0 b1 b2; clear hb)
      | (go_at_call 5; refine (H1.out _ HO.out).mono ?_; rintro e w2 ⟨v2, rfl, ho, hb⟩; obtain ⟨A2, c2, rfl⟩ := Kd.R_slice ho; have HR2 := Lib.hid (Kd.R_lower ho (show w.heap.size + 1 ≤ _ by omega)); have HO2 := Lib.hid (HO.out.trans (hb.mono (by omega))); have HB2 := Lib.hid (HB0.out.out hb); have hz2 := hb.size; clear ho hb b0 b1 b2 f0 f1 f2)
      | (go_at_call 6; refine (H2.out _ HO2.out).mono ?_; rintro e w3 ⟨v3, rfl, ho, hb⟩; obtain ⟨B3, d3, rfl⟩ := Kd.R_slice ho; have HR3 := Lib.hid (Kd.R_lower ho (show w.heap.size + 1 ≤ _ by omega)); have HR23 := Lib.hid (Kd.R_below HR2.out hb); have HO3 := Lib.hid (HO2.out.trans (hb.mono (by omega))); have HB3 := Lib.hid (HB2.out.out hb); clear ho hb)
      | (refine wpList_store_part _ rfl (.tmp 2) (.tmp 30) 24 rfl w.heap.size 0 #[.int .i64 (r : Int), .int .i64 (cc : Int), .slice A2 q.length c2] rfl rfl size24 rfl 24 _ HB3.out (by simp) #[.int .i64 (r : Int), .int .i64 (cc : Int), .slice A2 q.length c2] (by simp) ?_; intro w4 hb4 hfr; have HB4 := Lib.hid hb4; have HO4 := Lib.hid (HO3.out.trans (hfr.below (Nat.le_refl _))); have HC4 := Lib.hid (And.intro (R_C (R_far_all HR23.out hfr (by omega))).2.2 (And.intro (R_C HR23.out).2.1 (And.intro (R_C (R_far_all HR3.out hfr (by omega))).2.2 (R_C HR3.out).2.1))); have b0 := HB4.out.cell 0; have b1 := HB4.out.cell 1; have b2 := HB4.out.cell 2; have f0 := HB4.out.frozen 0; have f1 := HB4.out.frozen 1; have f2 := HB4.out.frozen 2; simp at b0 b1 b2; clear hb4 hfr)
      | (go_at_call 7; refine (mat_Apply.calls (r + cc + 3) (r : Int) (cc : Int) A2 c2 q B3 d3 u O 0 _ HC4.out.1 HC4.out.2.1 HC4.out.2.2.1 HC4.out.2.2.2 HA.out).mono ?_; rintro e w7 ⟨v7, rfl, ho7, hb7⟩; obtain ⟨g7, c7, hv7, _, hg7, _⟩ := Kd.R_form ho7 (by rw [HOl.out]; omega); rw [HOl.out] at hv7; subst hv7; have HO7 := Lib.hid (HO4.out.trans (hb7.mono HO4.out.size)); have HB7 := Lib.hid (HB4.out.out hb7); have HC7 := Lib.hid (And.intro (Kd.C_below HC4.out.1 hb7) (And.intro (Kd.C_below HC4.out.2.2.1 hb7) (And.intro ho7 hg7))); clear b0 b1 b2 f0 f1 f2; have b0 := HB7.out.cell 0; have b1 := HB7.out.cell 1; have b2 := HB7.out.cell 2; simp at b0 b1 b2; clear ho7 hb7 hg7)
      | (go_at_call 8; refine (mat_Times.calls (r + cc + 6) (r : Int) (cc : Int) A2 c2 q (u.length : Int) 1 B3 d3 u (r : Int) 1 O 0 _ HC7.out.1 HC4.out.2.1 HC7.out.2.1 HC4.out.2.2.2 HT.out).mono ?_; rintro e w8 ⟨v8, rfl, ho8, hb8⟩; obtain ⟨g8, c8, hv8, _, hg8, _⟩ := Kd.R_form ho8 (by rw [HOl.out]; omega); rw [HOl.out] at hv8; subst hv8; have HO8 := Lib.hid (HO7.out.trans (hb8.mono HO7.out.size)); have HB8 := Lib.hid (HB7.out.out hb8); have HC8 := Lib.hid (And.intro (Kd.C_below HC7.out.1 hb8) (And.intro (Kd.C_below HC7.out.2.1 hb8) (And.intro (Kd.R_below HC7.out.2.2.1 hb8) (And.intro (Nat.lt_of_lt_of_le HC7.out.2.2.2 hb8.size) (And.intro ho8 hg8))))); clear b0 b1 b2; have b0 := HB8.out.cell 0; have b1 := HB8.out.cell 1; have b2 := HB8.out.cell 2; simp at b0 b1 b2; have hz8 := HB8.out.lt; clear ho8 hb8 hg8)
      | fail)
    have HL : Hid (Lin w (w8.alloc (.cells #[.int .i64 (r : Int), .int .i64 1, .slice (some ⟨g8, 0, none⟩) r c8] 24)) r cc A2 c2 q B3 d3 u g7 g8 w8.heap.size c8) := Lib.hid
      ⟨HB8.out.alloc _, Blk.new _ _ _ _ rfl, Kd.C_alloc HC8.out.1 _, Kd.C_alloc HC8.out.2.1 _, fun i hi => by rw [← HOg.out i hi]; exact R_at (Kd.R_alloc HC8.out.2.2.1 _) HOl.out i hi, fun i hi => by rw [← HOg.out i hi]; exact R_at (Kd.R_alloc HC8.out.2.2.2.2.1 _) HOl.out i hi, HO8.out.alloc (by omega) _, by have := HC8.out.2.2.2.1; simp; omega, by have := HC8.out.2.2.2.2.2; simp; omega⟩
    have HCAP := Lib.hid (And.intro HC4.out.2.1 HC4.out.2.2.2)
    have HC2 : Hid (c2 ≤ 9223372036854775807) := Lib.hid (R_cap HR23.out)
    clear HC8 HB8 HO8 HC7 HB7 HO7 HC4 HO4 HB4 HB3 HO3 HR23 HR3 HO2 HB2 HR2 HO HB0 HOg HOl HA HT H1 H2 HD b0 b1 b2 hz1 hz2 hz8 hc hd hcm hdm
    generalize w8.heap.size = g9 at *
    go_loopw [77] (fun iv V => ∃ i : Nat, i ≤ r ∧ iv = .int .i64 i ∧ Lin w V r cc A2 c2 q B3 d3 u g7 g8 g9 c8) (fun iv _ => r - (intOf iv).toNat)
    case atStart => exact ⟨0, Nat.zero_le _, rfl, HL.out⟩
    case round =>
      clear HL
      obtain ⟨i, hi, rfl, hl⟩ := hrel
      by_cases hlt : i < r
      · have HL := Lib.hid hl
        obtain ⟨z, hz⟩ : ∃ z, z = dotv (rowOf q cc i) u := ⟨_, rfl⟩
        have x7 := hl.x i hlt
        have x8 := hl.d i hlt
        rw [← hz] at x7 x8
        have HZ := Lib.hid hz
        have m0 := hl.m.cell 0
        have m1 := hl.m.cell 1
        have m2 := hl.m.cell 2
        simp at m0 m1 m2
        clear hl hz
        go_wp2_with (first
          | (go_at_call 9; refine (row_any r cc A2 c2 q i wr HL.out.cq HCAP.out.1 HC2.out HK.out.1 hr2 hc2 HK.out.2 hlt).mono ?_; rintro e W2 ⟨v9, rfl, ho9, hb9⟩; obtain ⟨A9, c9, hv9⟩ := Kd.R_slice ho9; subst hv9; have HL9 := Lib.hid (HL.out.out hb9); have HR9 := Lib.hid (R_C ho9).2; clear ho9 hb9)
          | (go_at_call 4; refine (vec_Dot.calls (cc + 2) A9 c9 (rowOf q cc i) B3 d3 u z 0 _ HR9.out.2 HR9.out.1 HL9.out.cu HCAP.out.2 (by rw [HZ.out]; exact dot_some _ _ (by rw [rowOf_length HK.out.2 hlt, HU.out]) (by rw [rowOf_length HK.out.2 hlt]; omega) _ (by rw [rowOf_length HK.out.2 hlt]; omega))).mono ?_; rintro e W3 ⟨rfl, hb10⟩; have HL10 := Lib.hid (HL9.out.out hb10); have p2 := HL10.out.p.cell 2; have y8 := HL10.out.d i hlt; rw [← HZ.out] at y8; simp at p2; clear hb10)
          | fail)
        go_roundw
        case rel => exact ⟨i + 1, by omega, by go_num, HL10.out⟩
        case measure => simp [intOf]; omega
      · have HL := Lib.hid hl
        obtain rfl : i = r := by omega
        clear hl
        go_wp2_with fail
        go_ret
        exact ⟨rfl, HL.out.all⟩
end Go.Proofs.Ytghboikgoomloaa.PTillerLinear
