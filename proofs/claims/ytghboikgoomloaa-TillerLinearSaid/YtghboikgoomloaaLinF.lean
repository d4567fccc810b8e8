/-
  TillerLinear: the two functions that cut what came in (Few), and a row of a matrix (Row).
-/
import Derived.Test.YtghboikgoomloaaLinP
import Derived.Lib.Hide
import Derived.IntWalk
import Derived.Test.YtghboikgoomloaaBlk
namespace Go.Proofs.Ytghboikgoomloaa.PTillerLinear
open Go.RowKit Go.Proofs.YtghboikgoomloaaW.PrintWords Go.Proofs.YtghboikgoomloaaW.PrintLast Go.Proofs.YtghboikgoomloaaW.PrintMore
set_option linter.unusedVariables false

theorem build0 (w : World) : (Instr.buildSlice 22 0 #[]).run Try.prog w = .ok (.slice (some ⟨w.heap.size, 0, none⟩) 0 0) (w.alloc (.cells #[] 25)) := by kernel_rfl
abbrev K32 : Kd Int := Kd.int .i32
abbrev All : Nat → Prop := fun _ => True
theorem R_empty (w : World) : K32.R 25 (w.alloc (.cells #[] 25)) w.heap.size All (.slice (some ⟨w.heap.size, 0, none⟩) 0 0) [] :=
  ⟨fun _ _ => trivial, [], World.ownsRow_lit (base := w.heap.size) (e := 25) (size := 1) w #[] 0 (Nat.le_refl _) (by unfold maxLen; omega) rfl, Reps.none _ _⟩
theorem take_C {w : World} {A : Option Addr} {l : List Int} (h : K32.C w A l.length l) (n : Nat) : K32.C w A (l.take n).length (l.take n) := by
  have h1 : ReadsOf (Value.int .i32) (0 : Int) w A l.length l := Kd.reads_of_C (h1 := fun _ => rfl) h
  by_cases hn : n ≤ l.length
  · have := ReadsOf.take_ h1 n hn
    have e : (l.take n).length = n := by rw [List.length_take]; omega
    rw [e]
    exact Kd.C_of_reads (h1 := fun _ => rfl) this
  · rw [List.take_of_length_le (by omega)]; exact h

set_option maxRecDepth 100000 in
set_option maxHeartbeats 1000000 in
theorem few3_any (A : Option Addr) (c : Nat) (l : List Int) (n : Nat) (hn : n ≤ 100000) (w : World) (hr : K32.C w A l.length l) (hc : l.length ≤ c) (hcm : c ≤ 9223372036854775807) :
    Calls Try.prog 6 #[.slice A l.length c, .int .i64 n] w fun e w' => ∃ v : Value, e = .returned v ∧ K32.R 25 w' w.heap.size All v (l.take n) ∧ Below w.heap.size w w' := by
  have hm := Kd.C_max hr
  have hb := build0
  have HT := Lib.hid (take_C hr n)
  have HL := Lib.hid (List.length_take (i := n) (l := l))
  have HE := Lib.hid (R_empty w)
  clear hr
  by_cases h : l.length ≤ n
  · have e : decide ((n : Int) < (l.length : Int)) = false := decide_eq_false (by omega)
    have HX : Hid (l.take n = l) := Lib.hid (List.take_of_length_le h)
    rw [HX.out] at HT
    rw [HX.out]
    go_enter Try.func6, Try.ntmps6
    go_wp2_with (at_builtin; refine Kd.R_append_rows K32 (w0 := w) w.heap.size rfl (.tmp 12) (.tmp 13) 22 25 (.int .i32 0) 4 rfl Try.underlying22 info25 rfl (by decide) (by omega) (.slice (some ⟨w.heap.size, 0, none⟩) 0 0) [] l A l.length c All (fun _ => False) rfl rfl HE.out (Kd.C_alloc HT.out _) (fun _ _ h => h) (fun _ h => h.elim) (fun _ _ => trivial) ((Below.refl _ _).alloc (Nat.le_refl _) _) (by simp) (by simp; omega) ?_; intro v1 w1 ho hbe _ _)
    go_ret
    exact ⟨_, rfl, ho, hbe⟩
  · have e : decide ((n : Int) < (l.length : Int)) = true := decide_eq_true (by omega)
    have e2 : (l.take n).length = n := by rw [List.length_take]; omega
    rw [e2] at HT
    clear e2
    go_enter Try.func6, Try.ntmps6
    go_wp2_with (at_builtin; refine Kd.R_append_rows K32 (w0 := w) w.heap.size rfl (.tmp 12) (.tmp 13) 22 25 (.int .i32 0) 4 rfl Try.underlying22 info25 rfl (by decide) (by omega) (.slice (some ⟨w.heap.size, 0, none⟩) 0 0) [] (l.take n) A n c All (fun _ => False) rfl rfl HE.out (Kd.C_alloc HT.out _) (fun _ _ h => h) (fun _ h => h.elim) (fun _ _ => trivial) ((Below.refl _ _).alloc (Nat.le_refl _) _) (by simp) (by simp; omega) ?_; intro v1 w1 ho hbe _ _)
    go_ret
    exact ⟨_, rfl, ho, hbe⟩

theorem R_set_old {w : World} {B : Nat} {v : Value} {xs : List Int} (h : K32.R 25 w B All v xs) {p : Addr} (hp : p.block < B) (u : Value) : K32.R 25 (w.setCell p u) B All v xs :=
  Kd.R_mono (Kd.R_far (Kd.R_bound h) (fun k hk => by have := hk.2.1; omega) u) (fun _ _ => trivial)
theorem R_far_all {w w' : World} {B b : Nat} {v : Value} {xs : List Int} (h : K32.R 25 w B All v xs) (f : Far b w w') (hB : b < B) : K32.R 25 w' B All v xs :=
  Kd.R_mono (Kd.R_step (Kd.R_bound h) (fun k hk _ => f.block k (by have := hk.2.1; omega))) (fun _ _ => trivial)
theorem agg24 : AggTy Try.prog 24 := ⟨_, Try.underlying24, rfl⟩
theorem size24 : (Try.prog.info? 24).map (·.size) = some 3 := by kernel_rfl

set_option maxRecDepth 100000 in
set_option maxHeartbeats 1000000 in
theorem few4_any (R C : Int) (A : Option Addr) (c : Nat) (l : List Int) (w : World) (hr : K32.C w A l.length l) (hc : l.length ≤ c) (hcm : c ≤ 9223372036854775807) :
    Calls Try.prog 5 #[.agg #[.int .i64 R, .int .i64 C, .slice A l.length c]] w fun e w' => ∃ v : Value, e = .returned (.agg #[.int .i64 R, .int .i64 C, v]) ∧ K32.R 25 w' w.heap.size All v (l.take 2000) ∧ Below w.heap.size w w' := by
  have HR := Lib.hid hr
  clear hr
  obtain ⟨q, hq⟩ : ∃ q, q = l.take 2000 := ⟨_, rfl⟩
  rw [← hq]
  have HCC := Lib.hid (fun V (hV : Below w.heap.size w V) => few3_any A c l 2000 (by omega) V (Kd.C_below HR.out hV) hc hcm)
  rw [← hq] at HCC
  clear hq
  have hu24 := Try.underlying24
  go_enter Try.func5, Try.ntmps5
  go_wp2_with (first
    | (go_at_call 6; refine (HCC.out _ (((Below.refl _ _).alloc (Nat.le_refl _) _).alloc (by simp) _)).mono ?_; rintro e w1 ⟨v, rfl, ho, hb⟩; obtain ⟨A1, c1, rfl⟩ := Kd.R_slice ho; have HB0 := Lib.hid (((Blk.new w 24 #[.int .i64 R, .int .i64 C, .slice A l.length c] _ rfl).alloc _).out hb); have HB1 := Lib.hid ((Blk.new (w.alloc (.cells #[.int .i64 R, .int .i64 C, .slice A l.length c] 24)) 24 #[.int .i64 0, .int .i64 0, .slice none 0 0] (w.heap.size + 1) (by simp)).out hb); have HO := Lib.hid (And.intro ho (((((Below.refl w.heap.size w).alloc (Nat.le_refl _) _).alloc (by simp) _).trans (hb.mono (by simp <;> omega))))); have b2 := HB0.out.cell 2; have b3 := HB0.out.frozen 2; clear ho hb; simp at b2)
    | (refine wpList_load_part _ rfl (.tmp 1) 24 rfl w.heap.size 0 #[.int .i64 R, .int .i64 C, .slice A1 q.length c1] rfl agg24 size24 24 _ (HB0.out.set 2 (.slice A1 q.length c1)) ?_ ?_; (intro j v hv; rw [Nat.zero_add]; simpa using hv))
    | (refine wpList_store_part _ rfl (.tmp 2) (.tmp 7) 24 rfl (w.heap.size + 1) 0 #[.int .i64 R, .int .i64 C, .slice A1 q.length c1] rfl rfl size24 rfl 24 _ (HB1.out.far (p := ⟨w.heap.size, 2, none⟩) (by simp) _) (by simp) #[.int .i64 R, .int .i64 C, .slice A1 q.length c1] (by simp) ?_; intro w2 hb1 hfr)
    | fail)
  exact bodyPost_ret (results_blk1 Try.results5 _ _ (w.heap.size + 1) #[.int .i64 R, .int .i64 C, .slice A1 q.length c1] rfl agg24 size24 hb1) rfl ⟨_, rfl, Kd.R_lower (R_far_all (R_set_old HO.out.1 (by simp <;> omega) _) hfr (by simp <;> omega)) (by simp <;> omega), (HO.out.2.setCell (by simp <;> omega) _).trans (hfr.below (by simp <;> omega))⟩

set_option maxRecDepth 100000 in
set_option maxHeartbeats 1000000 in
theorem row_any (r c : Nat) (A : Option Addr) (cap : Nat) (l : List Int) (i : Nat) (w : World) (hr : K32.C w A l.length l) (hc : l.length ≤ cap) (hcm : cap ≤ 9223372036854775807)
    (hk : chk (r : Int) (c : Int) l = 0) (hr1 : r ≤ 128) (hc1 : c ≤ 128) (hl : l.length = r * c) (hi : i < r) :
    Calls Try.prog 9 #[.agg #[.int .i64 (r : Int), .int .i64 (c : Int), .slice A l.length cap], .int .i64 (i : Int)] w fun e w' => ∃ v : Value, e = .returned (.tuple #[v, .int .i64 0]) ∧ K32.R 25 w' w.heap.size All v (rowOf l c i) ∧ Below w.heap.size w w' := by
  have hCk := Lib.hid (fun V (hV : Below w.heap.size w V) => mat_Check.calls 2 (r : Int) (c : Int) A cap l 0 V (Kd.C_below hr hV) hc (by rw [check_some _ _ _ 2 (Nat.le_refl _), hk]))
  have HR := Lib.hid hr
  have h1 : (i + 1) * c ≤ r * c := Nat.mul_le_mul_right _ hi
  have h2 : (i + 1) * c = i * c + c := by rw [Nat.add_mul, Nat.one_mul]
  have hle : i * c ≤ (i + 1) * c := by rw [h2]; exact Nat.le_add_right _ _
  have hle2 : (i + 1) * c ≤ l.length := by rw [hl]; exact h1
  have hb1 : i * c ≤ 16384 := Nat.mul_le_mul (show i ≤ 128 by omega) hc1
  have hb2 : (i + 1) * c ≤ 16384 := Nat.mul_le_mul (show i + 1 ≤ 128 by omega) hc1
  have hlo := row_lo hr1 hc1 hi
  have hhi := row_hi hr1 hc1 hi
  rw [wrap_succ i (by omega)] at hhi
  obtain ⟨i0, hi0, _, hsz, _⟩ := info_parts info25
  obtain ⟨A1, hcut, hA, hC⟩ := print_mid_int (k := .i32) (P := Try.prog) 22 25 Try.underlying22 hi0 hsz A cap l ((i * c : Nat) : Int) (((i + 1) * c : Nat) : Int) (Int.natCast_nonneg _) (Int.ofNat_le.2 hle) (Int.ofNat_le.2 hle2) hc
  simp only [Int.toNat_natCast] at hcut hA hC
  obtain ⟨lo, elo⟩ : ∃ n, n = i * c := ⟨_, rfl⟩
  obtain ⟨hi2, ehi⟩ : ∃ n, n = (i + 1) * c := ⟨_, rfl⟩
  obtain ⟨q, hq⟩ : ∃ q, q = rowOf l c i := ⟨_, rfl⟩
  have hq' : q = (l.take ((i + 1) * c)).drop (i * c) := hq
  rw [← hq'] at hcut hA hC
  rw [← hq]
  rw [← elo] at hlo hcut
  rw [← ehi] at hhi hcut
  rw [← elo] at hC
  have hcut' : ∀ W : World, (Instr.slice 22 (.slice A l.length cap) (some (.int .i64 (lo : Int))) (some (.int .i64 (hi2 : Int))) none).run Try.prog W = .ok (.slice A1 q.length (cap - lo)) W := hcut
  have HQ : Hid (∀ V, Below w.heap.size w V → K32.C V A1 q.length q) := Lib.hid (fun V hV => Kd.C_of_reads (h1 := fun _ => rfl) (hA V (Kd.reads_of_C (Kd.C_below hr hV))))
  have hql : q.length ≤ 128 := by rw [hq, rowOf_length hl hi]; omega
  have hlo2 : IntKind.i64.wrap ((i : Int) * (c : Int)) = (lo : Int) := by rw [← Int.natCast_mul, ← elo]; exact IntWalk.i64_in _ (by omega)
  have hhi2 : IntKind.i64.wrap (((i : Int) + 1) * (c : Int)) = (hi2 : Int) := by
    have e : (i : Int) + 1 = ((i + 1 : Nat) : Int) := by omega
    rw [e, ← Int.natCast_mul, ← ehi]; exact IntWalk.i64_in _ (by omega)
  have hhi3 : wrap64 (((i : Int) + 1) * (c : Int)) = (hi2 : Int) := by
    have e : (i : Int) + 1 = ((i + 1 : Nat) : Int) := by omega
    rw [e]; exact hhi
  have hd1 : decide ((i : Int) < 0) = false := decide_eq_false (by omega)
  have hd2 : decide (r ≤ i) = false := decide_eq_false (by omega)
  have hd3 : decide ((r : Int) ≤ (i : Int)) = false := decide_eq_false (by omega)
  have hi5 : (i : Int) ≤ 127 := by omega
  clear hq hq' hcut hA hr elo ehi hhi h1 h2 hl hi0 hsz hk hb1 hb2 hle hle2
  have hu24 := Try.underlying24
  go_enter Try.func9, Try.ntmps9
  go_wp2_with (first
    | (go_at_call 14; refine (hCk.out _ ((Below.refl _ _).alloc (Nat.le_refl _) _)).mono ?_; rintro e w1 ⟨rfl, hb⟩; have HB0 := Lib.hid ((Blk.new w 24 #[.int .i64 (r : Int), .int .i64 (c : Int), .slice A l.length cap] _ rfl).out hb); have HO := Lib.hid (((Below.refl w.heap.size w).alloc (Nat.le_refl _) (.cells #[.int .i64 (r : Int), .int .i64 (c : Int), .slice A l.length cap] 24)).trans (hb.mono (by simp))); have b0 := HB0.out.cell 0; have b1 := HB0.out.cell 1; have b2 := HB0.out.cell 2; clear hb; simp at b0 b1 b2)
    | (at_builtin; refine Kd.R_append_rows K32 (w0 := w) w.heap.size rfl (.const (.slice none 0 0)) (.tmp 31) 22 25 (.int .i32 0) 4 rfl Try.underlying22 info25 rfl (by decide) (by omega) (.slice none 0 0) [] q A1 q.length (cap - lo) All (fun _ => False) rfl rfl (Kd.R_nil _ _ _ _ _) (HQ.out _ HO.out) (fun _ _ h => h) (fun _ h => h.elim) (fun _ _ => trivial) HO.out HO.out.size (by simp; omega) ?_; intro v2 w2 ho2 hb2 _ _)
    | fail)
  go_ret2
  exact ⟨_, rfl, ho2, hb2⟩
end Go.Proofs.Ytghboikgoomloaa.PTillerLinear
