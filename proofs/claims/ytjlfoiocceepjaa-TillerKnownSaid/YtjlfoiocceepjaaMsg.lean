/-
  A list and a message cut (Few), walked.
  A message in the memory; its numbers.
  wire.Check, walked.
-/
import Derived.Test.YtjlfoiocceepjaaWLast
import Derived.Test.YtjlfoiocceepjaaWMore
import Derived.Test.YtjlfoiocceepjaaFr
import Derived.Test.YtjlfoiocceepjaaBlk
import Derived.Lib.Hide
import Derived.IntWalk
import Derived.BigRegion
import Derived.BigQuiet
import Derived.Deep.QuietTactic
namespace Go.Proofs.Ytjlfoiocceepjaa
open Go.RowKit Go.Proofs.YtjlfoiocceepjaaW.PrintWords Go.Proofs.YtjlfoiocceepjaaW.PrintLast Go.Proofs.YtjlfoiocceepjaaW.PrintMore
set_option linter.unusedVariables false
set_option linter.unusedSimpArgs false

theorem infoInt : (Try.prog.info? 3).map (fun i => (i.zero, i.size, i.bytes)) = some (some (.int .i64 0), 1, 8) := by kernel_rfl
theorem buildInts0 (w : World) : (Instr.buildSlice 24 0 #[]).run Try.prog w = .ok (.slice (some ⟨w.heap.size, 0, none⟩) 0 0) (w.alloc (.cells #[] 3)) := by kernel_rfl
abbrev KI : Kd Int := Kd.int .i64
abbrev All : Nat → Prop := fun _ => True
theorem KI_empty (w : World) : KI.R 3 (w.alloc (.cells #[] 3)) w.heap.size All (.slice (some ⟨w.heap.size, 0, none⟩) 0 0) [] :=
  ⟨fun _ _ => trivial, [], World.ownsRow_lit (base := w.heap.size) (e := 3) (size := 1) w #[] 0 (Nat.le_refl _) (by unfold maxLen; omega) rfl, Reps.none _ _⟩
theorem takeI_C {w : World} {A : Option Addr} {l : List Int} (h : KI.C w A l.length l) (n : Nat) : KI.C w A (l.take n).length (l.take n) := by
  have h1 : ReadsOf (Value.int .i64) (0 : Int) w A l.length l := Kd.reads_of_C (h1 := fun _ => rfl) h
  by_cases hn : n ≤ l.length
  · have := ReadsOf.take_ h1 n hn
    have e : (l.take n).length = n := by rw [List.length_take]; omega
    rw [e]
    exact Kd.C_of_reads (h1 := fun _ => rfl) this
  · rw [List.take_of_length_le (by omega)]; exact h

set_option maxRecDepth 100000 in
set_option maxHeartbeats 1000000 in
theorem few_any (A : Option Addr) (c : Nat) (l : List Int) (n : Nat) (hn : n ≤ 100000) (w : World) (hr : KI.C w A l.length l) (hc : l.length ≤ c) (hcm : c ≤ 9223372036854775807) :
    Calls Try.prog 9 #[.slice A l.length c, .int .i64 n] w fun e w' => ∃ v : Value, e = .returned v ∧ KI.R 3 w' w.heap.size All v (l.take n) ∧ Below w.heap.size w w' := by
  have hm := Kd.C_max hr
  have hb := buildInts0
  have HT := Lib.hid (takeI_C hr n)
  have HL := Lib.hid (List.length_take (i := n) (l := l))
  have HE := Lib.hid (KI_empty w)
  clear hr
  by_cases h : l.length ≤ n
  · have e : decide ((n : Int) < (l.length : Int)) = false := decide_eq_false (by omega)
    have HX : Hid (l.take n = l) := Lib.hid (List.take_of_length_le h)
    rw [HX.out] at HT
    rw [HX.out]
    go_enter Try.func9, Try.ntmps9
    go_wp2_with (at_builtin; refine Kd.R_append_rows KI (w0 := w) w.heap.size rfl (.tmp 12) (.tmp 13) 24 3 (.int .i64 0) 8 rfl Try.underlying24 infoInt rfl (by decide) (by omega) (.slice (some ⟨w.heap.size, 0, none⟩) 0 0) [] l A l.length c All (fun _ => False) rfl rfl HE.out (Kd.C_alloc HT.out _) (fun _ _ h => h) (fun _ h => h.elim) (fun _ _ => trivial) ((Below.refl _ _).alloc (Nat.le_refl _) _) (by simp) (by simp; omega) ?_; intro v1 w1 ho hbe _ _)
    go_ret
    exact ⟨_, rfl, ho, hbe⟩
  · have e : decide ((n : Int) < (l.length : Int)) = true := decide_eq_true (by omega)
    have e2 : (l.take n).length = n := by rw [List.length_take]; omega
    rw [e2] at HT
    clear e2
    go_enter Try.func9, Try.ntmps9
    go_wp2_with (at_builtin; refine Kd.R_append_rows KI (w0 := w) w.heap.size rfl (.tmp 12) (.tmp 13) 24 3 (.int .i64 0) 8 rfl Try.underlying24 infoInt rfl (by decide) (by omega) (.slice (some ⟨w.heap.size, 0, none⟩) 0 0) [] (l.take n) A n c All (fun _ => False) rfl rfl HE.out (Kd.C_alloc HT.out _) (fun _ _ h => h) (fun _ h => h.elim) (fun _ _ => trivial) ((Below.refl _ _).alloc (Nat.le_refl _) _) (by simp) (by simp; omega) ?_; intro v1 w1 ho hbe _ _)
    go_ret
    exact ⟨_, rfl, ho, hbe⟩
theorem KI_set_old {w : World} {B : Nat} {v : Value} {xs : List Int} (h : KI.R 3 w B All v xs) {p : Addr} (hp : p.block < B) (u : Value) : KI.R 3 (w.setCell p u) B All v xs :=
  Kd.R_mono (Kd.R_far (Kd.R_bound h) (fun k hk => by have := hk.2.1; omega) u) (fun _ _ => trivial)
theorem KI_far_all {w w' : World} {B b : Nat} {v : Value} {xs : List Int} (h : KI.R 3 w B All v xs) (f : Far b w w') (hB : b < B) : KI.R 3 w' B All v xs :=
  Kd.R_mono (Kd.R_step (Kd.R_bound h) (fun k hk _ => f.block k (by have := hk.2.1; omega))) (fun _ _ => trivial)
theorem KI_out {w w' : World} {B : Nat} {v : Value} {xs : List Int} (h : KI.R 3 w B All v xs) (hb : Below w.heap.size w w') : KI.R 3 w' B All v xs :=
  Kd.R_mono (Kd.R_below (Kd.R_bound h) hb) (fun _ _ => trivial)
theorem KI_C {w : World} {B n c : Nat} {A : Option Addr} {xs : List Int} (h : KI.R 3 w B All (.slice A n c) xs) : n = xs.length ∧ n ≤ c ∧ KI.C w A xs.length xs := Kd.R_reads' h
theorem KI_cap {w : World} {B n c : Nat} {A : Option Addr} {xs : List Int} (h : KI.R 3 w B All (.slice A n c) xs) : c ≤ 9223372036854775807 := by
  obtain ⟨inner, ho⟩ := Kd.R_own h
  rcases ho.2 with ⟨h1, _⟩ | ⟨g, cap, cur, h1, _, _, _, h2, _⟩
  · cases h1; omega
  · cases h1; simp only [maxLen] at h2; omega
theorem KI_at {w : World} {A : Option Addr} {n : Nat} {l : List Int} (h : KI.C w A n l) (hn : 0 < n) : ∃ ad, A = some ad ∧ ∀ j, j < n → w.cell? (ad.add j) = some (.int .i64 (rd l (j : Int))) := by
  have h1 : ReadsOf (Value.int .i64) (0 : Int) w A n l := Kd.reads_of_C (h1 := fun _ => rfl) h
  obtain ⟨x, hA, hx⟩ := h1.2.2 hn
  exact ⟨x, hA, fun j hj => by have := hx j hj; simpa [rd] using this⟩
end Go.Proofs.Ytjlfoiocceepjaa
namespace Go.Proofs.Ytjlfoiocceepjaa
open Go.RowKit Go.Proofs.YtjlfoiocceepjaaW.PrintWords Go.Proofs.YtjlfoiocceepjaaW.PrintLast Go.Proofs.YtjlfoiocceepjaaW.PrintMore
set_option linter.unusedVariables false
set_option linter.unusedSimpArgs false

/-- a message: its ten numbers, its tokens, its text -/
def msgC (n : Nat → Int) (tv : Value) (s : ByteArray) : Array Value := #[.int .i64 (n 0), .int .i64 (n 1), .int .i64 (n 2), .int .i64 (n 3), .int .i64 (n 4), .int .i64 (n 5), .int .i64 (n 6), .int .i64 (n 7), .int .i64 (n 8), .int .i64 (n 9), tv, .string s]
def ptrC (p : Nat) : Array Value := #[.pointer (some ⟨p, 0, none⟩), .pointer (some ⟨p, 1, none⟩), .pointer (some ⟨p, 2, none⟩), .pointer (some ⟨p, 3, none⟩), .pointer (some ⟨p, 4, none⟩), .pointer (some ⟨p, 5, none⟩), .pointer (some ⟨p, 6, none⟩), .pointer (some ⟨p, 7, none⟩), .pointer (some ⟨p, 8, none⟩), .pointer (some ⟨p, 9, none⟩)]
theorem msgC_at (n : Nat → Int) (tv : Value) (s : ByteArray) : ∀ k, k < 10 → (msgC n tv s)[k]? = some (.int .i64 (n k))
  | 0, _ => rfl | 1, _ => rfl | 2, _ => rfl | 3, _ => rfl | 4, _ => rfl | 5, _ => rfl | 6, _ => rfl | 7, _ => rfl | 8, _ => rfl | 9, _ => rfl
  | k + 10, h => by omega
theorem ptrC_at (p : Nat) : ∀ k, k < 10 → (ptrC p)[k]? = some (.pointer (some ⟨p, k, none⟩))
  | 0, _ => rfl | 1, _ => rfl | 2, _ => rfl | 3, _ => rfl | 4, _ => rfl | 5, _ => rfl | 6, _ => rfl | 7, _ => rfl | 8, _ => rfl | 9, _ => rfl
  | k + 10, h => by omega
theorem aggMsg : AggTy Try.prog 51 := ⟨_, Try.underlying51, rfl⟩
theorem sizeMsg : (Try.prog.info? 51).map (·.size) = some 12 := by kernel_rfl
set_option maxRecDepth 100000 in
set_option maxHeartbeats 4000000 in
theorem numbers_any (p : Nat) (w : World) : Calls Try.prog 28 #[.pointer (some ⟨p, 0, none⟩)] w fun e w' => e = .returned (.slice (some ⟨w.heap.size, 0, none⟩) 10 10) ∧ Blk w' w.heap.size 85 (ptrC p) ∧ Below w.heap.size w w' := by
  go_enter Try.func28, Try.ntmps28
  go_wp2_with fail
  go_region
  go_wp2_with fail
  go_ret
  exact ⟨rfl, Blk.new _ _ _ _ rfl, (Below.refl _ _).drew.alloc (Nat.le_refl _) _⟩
/-! ### Check, plain -/
def badN (x : Int) : Prop := x < 0 ∨ 1099511627776 < x
instance (x : Int) : Decidable (badN x) := by unfold badN; infer_instance
def badT (x : Int) : Prop := x < 0 ∨ 255 < x
instance (x : Int) : Decidable (badT x) := by unfold badT; infer_instance
/-- the number's part and its error, or what is said of the rest -/
def chkN (n : Nat → Int) (r : Int × Int) : Nat → Nat → Int × Int
  | 0, _ => r
  | m + 1, k => if badN (n k) then ((k : Int) + 1, 1) else chkN n r m (k + 1)
def chkT (r : Int × Int) : List Int → Int × Int
  | [] => r
  | t :: l => if badT t then (11, 7) else chkT r l
/-- (part, error's number; 0: none) -/
def chk (n : Nat → Int) (ts : List Int) (sz : Nat) : Int × Int :=
  if n 0 < 1 ∨ 10 < n 0 then (1, 13)
  else chkN n (if 128 < ts.length then (11, 2) else chkT (if 50000 < sz then (12, 2) else (0, 0)) ts) 10 0
def errB (r : Int × Int) : Value := if r.2 = 0 then .nilIface else .iface 91 (.agg #[.int .i64 r.1, .iface 37 (.int .i64 r.2)])
theorem errB_some (p q : Int) (h : q ≠ 0) : errB (p, q) = .iface 91 (.agg #[.int .i64 p, .iface 37 (.int .i64 q)]) := if_neg h
theorem errB_none (p : Int) : errB (p, 0) = .nilIface := rfl
end Go.Proofs.Ytjlfoiocceepjaa
namespace Go.Proofs.Ytjlfoiocceepjaa
open Go.RowKit Go.Proofs.YtjlfoiocceepjaaW.PrintWords Go.Proofs.YtjlfoiocceepjaaW.PrintLast Go.Proofs.YtjlfoiocceepjaaW.PrintMore
set_option linter.unusedVariables false
set_option linter.unusedSimpArgs false

/-- an error, or none, and no old cell is another -/
def RetE (r : Int × Int) (w : World) (e : Ending) (w' : World) : Prop := e = .returned (errB r) ∧ Below w.heap.size w w'
theorem RetE.some {r : Int × Int} {p q : Int} {w w' : World} (h : r = (p, q)) (hq : q ≠ 0) (hb : Below w.heap.size w w') : RetE r w (.returned (.iface 91 (.agg #[.int .i64 p, .iface 37 (.int .i64 q)]))) w' := ⟨by rw [h, errB_some _ _ hq], hb⟩
theorem RetE.none {r : Int × Int} {w w' : World} (h : r = (0, 0)) (hb : Below w.heap.size w w') : RetE r w (.returned .nilIface) w' := ⟨by rw [h]; rfl, hb⟩
theorem chkN_bad {n : Nat → Int} {r : Int × Int} {m k : Nat} (h : badN (n k)) (hm : 0 < m) : chkN n r m k = ((k : Int) + 1, 1) := by
  obtain ⟨j, rfl⟩ : ∃ j, m = j + 1 := ⟨m - 1, by omega⟩
  unfold chkN; rw [if_pos h]
theorem chkN_ok {n : Nat → Int} {r : Int × Int} {m k : Nat} (h : ¬ badN (n k)) (hm : 0 < m) : chkN n r m k = chkN n r (m - 1) (k + 1) := by
  obtain ⟨j, rfl⟩ : ∃ j, m = j + 1 := ⟨m - 1, by omega⟩
  conv => lhs; unfold chkN
  rw [if_neg h, Nat.add_sub_cancel]
theorem chkT_bad {r : Int × Int} {ts : List Int} {k : Nat} (hk : k < ts.length) (h : badT (rd ts (k : Int))) : chkT r (ts.drop k) = (11, 7) := by
  rw [List.drop_eq_getElem_cons hk]
  have e : rd ts (k : Int) = ts[k] := by simp [rd, List.getD_eq_getElem?_getD, List.getElem?_eq_getElem hk]
  rw [e] at h
  show (if badT ts[k] then _ else _) = _
  rw [if_pos h]
theorem chkT_ok {r : Int × Int} {ts : List Int} {k : Nat} (hk : k < ts.length) (h : ¬ badT (rd ts (k : Int))) : chkT r (ts.drop k) = chkT r (ts.drop (k + 1)) := by
  conv => lhs; rw [List.drop_eq_getElem_cons hk]
  have e : rd ts (k : Int) = ts[k] := by simp [rd, List.getD_eq_getElem?_getD, List.getElem?_eq_getElem hk]
  rw [e] at h
  show (if badT ts[k] then _ else _) = _
  rw [if_neg h]
set_option maxRecDepth 100000 in
set_option maxHeartbeats 4000000 in
theorem check_kind (n : Nat → Int) (A : Option Addr) (l c : Nat) (s : ByteArray) (w : World) (h : n 0 < 1 ∨ 10 < n 0) :
    Calls Try.prog 27 #[.agg (msgC n (.slice A l c) s)] w (RetE (1, 13) w) := by
  have HB0 := Lib.hid (Below.refl w.heap.size w)
  unfold msgC
  have hu48 := Try.underlying51
  have hu69 := Try.underlying91
  rcases (show n 0 < 1 ∨ (¬ n 0 < 1 ∧ 10 < n 0) by omega) with h | ⟨h, h'⟩
  all_goals
    go_enter Try.func27, Try.ntmps27
    go_wp2_with (first
      | ((with_reducible refine gate_dst (N := 1) rfl ?_); refine box_event rfl (N := 1) rfl (cs := msgC n (.slice A l c) s) (t := 51) ?hr ?_; (case hr => first | (go_simp; done) | (go_simp; rfl)); intro g hg W hbox hb; have HGe := Lib.hid hg; clear hg; have c0 := Blk.cell hbox 0; rw [msgC_at n _ _ 0 (by omega)] at c0; have HB := Lib.hid hb; clear hb hbox)
      | fail)
    go_ret
    exact RetE.some rfl (by decide) HB.out
set_option maxRecDepth 100000 in
set_option maxHeartbeats 4000000 in
theorem check_rest (n : Nat → Int) (A : Option Addr) (c : Nat) (ts : List Int) (s : ByteArray) (w : World) (hr : KI.C w A ts.length ts) (hc : ts.length ≤ c) (hcm : c ≤ 9223372036854775807) (hs : s.size ≤ 9223372036854775807) (h0 : ¬ n 0 < 1) (h0' : ¬ 10 < n 0) (r : Int × Int)
    (hq : Hid (r = chkN n (if 128 < ts.length then (11, 2) else chkT (if 50000 < s.size then (12, 2) else (0, 0)) ts) 10 0)) :
    Calls Try.prog 27 #[.agg (msgC n (.slice A ts.length c) s)] w (RetE r w) := by
  have HR := Lib.hid hr
  clear hr
  have hu48 := Try.underlying51
  have hu69 := Try.underlying91
  unfold msgC
  go_enter Try.func27, Try.ntmps27
  go_wp2_with (first
    | ((with_reducible refine gate_dst (N := 1) rfl ?_); refine box_event rfl (N := 1) rfl (cs := msgC n (.slice A ts.length c) s) (t := 51) ?hr ?_; (case hr => first | (go_simp; done) | (go_simp; rfl)); intro g hg W hbox hb; have HGe := Lib.hid hg; clear hg; have c0 := Blk.cell hbox 0; rw [msgC_at n _ _ 0 (by omega)] at c0; have HX := Lib.hid (show Blk W g 51 (msgC n (.slice A ts.length c) s) from hbox); have HB := Lib.hid hb; clear hb hbox)
    | (go_at_call 28; (with_reducible refine (numbers_any g _).mono ?_); rintro e w1 ⟨rfl, hp, hb⟩; clear c0; have HP := Lib.hid hp; have HX1 := Lib.hid (HX.out.out hb); have HB1 := Lib.hid (HB.out.trans (hb.mono HB.out.size)); clear hb hp)
    | fail)
  have HC1 := Lib.hid (Kd.C_below HR.out HB1.out)
  clear HR HB HX HGe
  generalize W.heap.size = pb at *
  go_loop [20] (fun kv => ∃ k : Nat, k ≤ 10 ∧ kv = .int .i64 (k : Int) ∧ Hid (r = chkN n (if 128 < ts.length then (11, 2) else chkT (if 50000 < s.size then (12, 2) else (0, 0)) ts) (10 - k) k)) (fun kv => 10 - (intOf kv).toNat)
  case atStart => exact ⟨0, by omega, rfl, hq⟩
  case round =>
    clear hq
    obtain ⟨k, hk, rfl, hq⟩ := hrel
    by_cases hlt : k < 10
    · have hp := HP.out.cell k
      rw [ptrC_at _ k hlt] at hp
      have hx := HX1.out.cell k
      rw [msgC_at n _ _ k hlt] at hx
      have hkI : (k : Int) < 10 := by omega
      obtain ⟨x, hxe⟩ : ∃ x, x = n k := ⟨_, rfl⟩
      rw [← hxe] at hx
      by_cases hbad : badN (n k)
      · have HQ := Lib.hid (hq.out.trans (chkN_bad hbad (by omega)))
        rw [← hxe] at hbad
        have HXE := Lib.hid hxe
        unfold badN at hbad
        clear hxe
        rcases (show x < 0 ∨ (¬ x < 0 ∧ 1099511627776 < x) by omega) with hz | ⟨hz, hz'⟩
        all_goals
          clear hbad
          go_wp2_with fail
          go_ret
          exact RetE.some HQ.out (by decide) HB1.out
      · have HQ := Lib.hid (hq.out.trans (chkN_ok hbad (by omega)))
        rw [← hxe] at hbad
        have HXE := Lib.hid hxe
        unfold badN at hbad
        clear hxe
        have hz : ¬ x < 0 := by omega
        have hz' : ¬ 1099511627776 < x := by omega
        clear hbad
        go_wp2_with fail
        go_round
        case rel => exact ⟨k + 1, by omega, by go_num, Lib.hid (by rw [show 10 - (k + 1) = 10 - k - 1 by omega]; exact HQ.out)⟩
        case measure => simp [intOf]; omega
    · obtain rfl : k = 10 := by omega
      have HQ : Hid (r = (if 128 < ts.length then (11, 2) else chkT (if 50000 < s.size then (12, 2) else (0, 0)) ts)) := Lib.hid hq.out
      clear hq
      have c10 := HX1.out.cell 10
      have e10 : (msgC n (.slice A ts.length c) s)[10]? = some (.slice A ts.length c) := rfl
      rw [e10] at c10
      clear e10
      by_cases hbig : 128 < ts.length
      · have HQ := Lib.hid (HQ.out.trans (if_pos hbig))
        have hbI : (128 : Int) < (ts.length : Int) := by omega
        go_wp2_with fail
        go_ret
        exact RetE.some HQ.out (by decide) HB1.out
      · have HQ := Lib.hid (HQ.out.trans (if_neg hbig))
        have hbI : ¬ (128 : Int) < (ts.length : Int) := by omega
        go_wp2_with fail
        go_loop [51] (fun kv => ∃ k : Nat, k ≤ ts.length ∧ kv = .int .i64 (k : Int) ∧ Hid (r = chkT (if 50000 < s.size then (12, 2) else (0, 0)) (ts.drop k))) (fun kv => ts.length - (intOf kv).toNat)
        case atStart => exact ⟨0, by omega, rfl, by rw [List.drop_zero]; exact HQ⟩
        case round =>
          clear HQ
          obtain ⟨k, hk, rfl, hq⟩ := hrel
          by_cases hlt : k < ts.length
          · obtain ⟨ad, hA, had⟩ := KI_at HC1.out (by omega)
            have hx := had k hlt
            subst hA
            have hkI : (k : Int) < (ts.length : Int) := by omega
            obtain ⟨x, hxe⟩ : ∃ x, x = rd ts (k : Int) := ⟨_, rfl⟩
            rw [← hxe] at hx
            clear had
            by_cases hbad : badT (rd ts (k : Int))
            · have HQ := Lib.hid (hq.out.trans (chkT_bad hlt hbad))
              rw [← hxe] at hbad
              have HXE := Lib.hid hxe
              unfold badT at hbad
              clear hxe
              rcases (show x < 0 ∨ (¬ x < 0 ∧ 255 < x) by omega) with hz | ⟨hz, hz'⟩
              all_goals
                clear hbad
                go_wp2_with fail
                go_ret
                exact RetE.some HQ.out (by decide) HB1.out
            · have HQ := Lib.hid (hq.out.trans (chkT_ok hlt hbad))
              rw [← hxe] at hbad
              have HXE := Lib.hid hxe
              unfold badT at hbad
              clear hxe
              have hz : ¬ x < 0 := by omega
              have hz' : ¬ 255 < x := by omega
              clear hbad
              go_wp2_with fail
              go_round
              case rel => exact ⟨k + 1, by omega, by go_num, HQ⟩
              case measure => simp [intOf]; omega
          · obtain rfl : k = ts.length := by omega
            have HQ : Hid (r = (if 50000 < s.size then (12, 2) else (0, 0))) := Lib.hid (by have := hq.out; rw [List.drop_length] at this; exact this)
            clear hq
            have c11 := HX1.out.cell 11
            have e11 : (msgC n (.slice A ts.length c) s)[11]? = some (.string s) := rfl
            rw [e11] at c11
            clear e11
            by_cases hsz : 50000 < s.size
            · have HQ := Lib.hid (HQ.out.trans (if_pos hsz))
              have hbI : (50000 : Int) < (s.size : Int) := by omega
              go_wp2_with fail
              go_ret
              exact RetE.some HQ.out (by decide) HB1.out
            · have HQ := Lib.hid (HQ.out.trans (if_neg hsz))
              have hbI : ¬ (50000 : Int) < (s.size : Int) := by omega
              go_wp2_with fail
              go_ret
              exact RetE.none HQ.out HB1.out
theorem check_any (n : Nat → Int) (A : Option Addr) (c : Nat) (ts : List Int) (s : ByteArray) (w : World) (hr : KI.C w A ts.length ts) (hc : ts.length ≤ c) (hcm : c ≤ 9223372036854775807) (hs : s.size ≤ 9223372036854775807) :
    Calls Try.prog 27 #[.agg (msgC n (.slice A ts.length c) s)] w (RetE (chk n ts s.size) w) := by
  unfold chk
  by_cases h : n 0 < 1 ∨ 10 < n 0
  · rw [if_pos h]; exact check_kind n A _ c s w h
  · rw [if_neg h]; exact check_rest n A c ts s w hr hc hcm hs (fun h1 => h (.inl h1)) (fun h1 => h (.inr h1)) _ (Lib.hid rfl)
end Go.Proofs.Ytjlfoiocceepjaa
