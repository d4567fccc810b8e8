/-
  Are two of the document's messages the same: walked.
-/
import Derived.Test.YtjlfoiocceepjaaTold
import Derived.Laws.StructEq
import Derived.Deep.QuietTactic
import Derived.BigQuiet
namespace Go.Proofs.Ytjlfoiocceepjaa
open Go.RowKit Go.Proofs.YtjlfoiocceepjaaW.PrintWords Go.Proofs.YtjlfoiocceepjaaW.PrintLast Go.Proofs.YtjlfoiocceepjaaW.PrintMore
set_option linter.unusedVariables false
set_option linter.unusedSimpArgs false

/-- do two rows of numbers agree, m of them from number i on? -/
def allEq (f g : Nat → Int) : Nat → Nat → Bool
  | 0, _ => true
  | m + 1, i => (f i == g i) && allEq f g m (i + 1)
theorem allEq_iff (f g : Nat → Int) : ∀ m i, allEq f g m i = true ↔ ∀ j, i ≤ j → j < i + m → f j = g j
  | 0, i => by simp [allEq]; intro j h1 h2; omega
  | m + 1, i => by
    rw [allEq, Bool.and_eq_true, beq_iff_eq, allEq_iff f g m (i + 1)]
    constructor
    · intro ⟨h1, h2⟩ j hj1 hj2
      by_cases e : j = i
      · rw [e]; exact h1
      · exact h2 j (by omega) (by omega)
    · intro h
      exact ⟨h i (by omega) (by omega), fun j h1 h2 => h j (by omega) (by omega)⟩
section
variable {P : Program}
theorem part_i64 {t : TypeId} (h : P.underlying t = some (.int .i64)) (cs : Array Value) (i : Nat) (v : Value) (hv : cs[i]? = some v) (w : World) : (part t cs i).run P w = .ok v w := by
  have h1 : (isAgg t).run P w = .ok false w := by simp [isAgg, run_underlying h]
  simp [part, h1, hv]
theorem run_eq_ints (d t elem len : Nat) (hu : P.underlying t = some (.array len elem)) (he : P.underlying elem = some (.int .i64)) (hs : (P.info? elem).map (·.size) = some 1) (xs ys : Array Value) (f g : Nat → Int)
    (hx : ∀ i, i < len → xs[i]? = some (.int .i64 (f i))) (hy : ∀ i, i < len → ys[i]? = some (.int .i64 (g i))) (w : World) : (Op.equalIn (d + 2) t (.agg xs) (.agg ys)).run P w = .ok (allEq f g len 0) w := by
  have hs' := fun w => run_sizeOf (P := P) hs w
  rw [Op.equalIn]
  simp only [Sem.run_bind, run_underlying hu, Result.andThen_ok, hs', Nat.mul_one]
  rw [Std.Legacy.Range.forIn_eq_forIn_range']
  have hl : Std.Legacy.Range.size ⟨0, len, 1, by decide⟩ = len := by simp [Std.Legacy.Range.size]
  rw [hl]
  have key : ∀ (m i : Nat), i + m ≤ len → Sem.run P (forIn (List.range' i m 1) ((none : Option Bool), ()) fun i __s => do
            let __do_lift ← part elem xs i
            let __do_lift_1 ← part elem ys i
            let __do_lift ← Op.equalIn (d + 1) elem __do_lift __do_lift_1
            if (!__do_lift) = true then pure (ForInStep.done (some false, ())) else pure (ForInStep.yield (none, ()))) w = .ok (if allEq f g m i = true then (none, ()) else (some false, ())) w := by
    intro m
    induction m with
    | zero => intro i hi; simp [allEq]
    | succ m ih =>
      intro i hi
      rw [List.range'_succ, List.forIn_cons]
      simp only [Sem.run_bind, part_i64 he xs i _ (hx i (by omega)), part_i64 he ys i _ (hy i (by omega)), Result.andThen_ok, run_equalIn_int w d elem .i64 .i64 _ _ he]
      rw [allEq]
      cases hfg : (f i == g i)
      · simp
      · simpa using ih (i + 1) (by omega)
  have h := key len 0 (by omega)
  rw [h]
  cases hq : allEq f g len 0 <;> simp
end
theorem run_neq_numbers (xs ys : Array Value) (f g : Nat → Int) (hx : ∀ i, i < 10 → xs[i]? = some (.int .i64 (f i))) (hy : ∀ i, i < 10 → ys[i]? = some (.int .i64 (g i))) (w : World) :
    (binOp .neq 58 (.agg xs) (.agg ys)).run Try.prog w = .ok (.bool (!allEq f g 10 0)) w := by
  have h := fun d => run_eq_ints (P := Try.prog) d 58 3 10 Try.underlying58 Try.underlying3 (by kernel_rfl) xs ys f g hx hy w
  simp only [binOp]
  simp [Op.equal, Op.maxDepth, h 9998]
/-! ### walked -/
def sameB (n m : Nat → Int) (ts us : List Int) (s t : ByteArray) : Bool := allEq n m 10 0 && decide (s = t) && decide (ts = us)
theorem numsC (n : Nat → Int) : ∀ i, i < 10 → (#[.int .i64 (n 0), .int .i64 (n 1), .int .i64 (n 2), .int .i64 (n 3), .int .i64 (n 4), .int .i64 (n 5), .int .i64 (n 6), .int .i64 (n 7), .int .i64 (n 8), .int .i64 (n 9)] : Array Value)[i]? = some (.int .i64 (n i))
  | 0, _ => rfl | 1, _ => rfl | 2, _ => rfl | 3, _ => rfl | 4, _ => rfl | 5, _ => rfl | 6, _ => rfl | 7, _ => rfl | 8, _ => rfl | 9, _ => rfl
  | k + 10, h => by omega
theorem numsC_part (n : Nat → Int) (tv : Value) (s : ByteArray) : ∀ (j : Nat) (v : Value), (#[.int .i64 (n 0), .int .i64 (n 1), .int .i64 (n 2), .int .i64 (n 3), .int .i64 (n 4), .int .i64 (n 5), .int .i64 (n 6), .int .i64 (n 7), .int .i64 (n 8), .int .i64 (n 9)] : Array Value).toList[j]? = some v → (msgC n tv s)[0 + j]? = some v := by
  intro j v hv
  rw [Nat.zero_add]
  by_cases hj : j < 10
  · rw [msgC_at _ _ _ j hj]
    have := numsC n j hj
    rw [← hv]
    simpa using this.symm
  · rw [List.getElem?_eq_none (by simp; omega)] at hv
    cases hv
theorem aggArr : AggTy Try.prog 58 := ⟨_, Try.underlying58, rfl⟩
theorem sizeArr : (Try.prog.info? 58).map (·.size) = some 10 := by kernel_rfl
/-- both messages in the memory -/
structure Sm (w W : World) (g h : Nat) (n m : Nat → Int) (A B : Option Addr) (L M c d : Nat) (ts us : List Int) (s t : ByteArray) : Prop where
  one : Blk W g 60 (msgC n (.slice A L c) s)
  two : Blk W h 60 (msgC m (.slice B M d) t)
  ct : KI.C W A L ts
  cu : KI.C W B M us
  below : Below w.heap.size w W
theorem Sm.drew {w W : World} {g h : Nat} {n m : Nat → Int} {A B : Option Addr} {L M c d : Nat} {ts us : List Int} {s t : ByteArray} (x : Sm w W g h n m A B L M c d ts us s t) : Sm w W.drew g h n m A B L M c d ts us s t :=
  ⟨x.one.drew, x.two.drew, Kd.C_below x.ct (Below.refl _ _).drew, Kd.C_below x.cu (Below.refl _ _).drew, x.below.drew⟩
theorem rd_ext {ts us : List Int} (hl : us.length = ts.length) (h : ∀ j : Nat, j < ts.length → rd ts (j : Int) = rd us (j : Int)) : ts = us := by
  apply List.ext_getElem hl.symm
  intro j h1 h2
  have := h j h1
  simpa [rd, List.getD_eq_getElem?_getD, List.getElem?_eq_getElem h1, List.getElem?_eq_getElem h2] using this
theorem text_unlike {a b : ByteArray} (h : a ≠ b) : (a.toList == b.toList) = false := by
  rw [beq_eq_false_iff_ne]
  intro e
  rw [ByteArray.toList_eq, ByteArray.toList_eq] at e
  apply h
  cases a; cases b
  simp at e
  rw [e]
/-- one way through Same, said of its answer -/
def Sway (w : World) (b : Bool) (e : Ending) (w' : World) : Prop := e = .returned (.bool b) ∧ Below w.heap.size w w'
set_option maxRecDepth 100000 in
set_option maxHeartbeats 8000000 in
theorem same_in (n m : Nat → Int) (A B : Option Addr) (L M c d : Nat) (ts us : List Int) (s t : ByteArray) (w : World) (hr : KI.C w A L ts) (hu : KI.C w B M us) (hL : Hid (ts.length = L)) (hM : Hid (us.length = M)) (hc : L ≤ c) (hd : M ≤ d) (hcm : c ≤ 9223372036854775807) (hdm : d ≤ 9223372036854775807) :
    Calls Try.prog 22 #[.agg (msgC n (.slice A L c) s), .agg (msgC m (.slice B M d) t)] w (Sway w (sameB n m ts us s t)) := by
  have HR := Lib.hid (And.intro hr hu)
  have HBe := Lib.hid (Below.refl w.heap.size w)
  have hu54 := Try.underlying60
  have hne := fun W => run_neq_numbers #[.int .i64 (n 0), .int .i64 (n 1), .int .i64 (n 2), .int .i64 (n 3), .int .i64 (n 4), .int .i64 (n 5), .int .i64 (n 6), .int .i64 (n 7), .int .i64 (n 8), .int .i64 (n 9)] #[.int .i64 (m 0), .int .i64 (m 1), .int .i64 (m 2), .int .i64 (m 3), .int .i64 (m 4), .int .i64 (m 5), .int .i64 (m 6), .int .i64 (m 7), .int .i64 (m 8), .int .i64 (m 9)] n m (numsC n) (numsC m) W
  clear hr hu
  unfold msgC
  cases hq : allEq n m 10 0 with
  | false =>
    have hB : sameB n m ts us s t = false := by unfold sameB; rw [hq]; rfl
    rw [hB]
    rw [hq] at hne
    clear hq hB
    go_enter Try.func22, Try.ntmps22
    go_wp2_with (first
      | ((with_reducible refine gate_dst (N := 2) rfl ?_); refine box_event rfl (N := 2) rfl (cs := msgC n (.slice A L c) s) (t := 60) ?hr ?_; (case hr => first | (go_simp; done) | (go_simp; rfl)); intro g hg W1 hbox hb; clear hg; have HX := Lib.hid (show Blk W1 g 60 (msgC n (.slice A L c) s) from hbox); have HB := Lib.hid (HBe.out.trans (hb.mono HBe.out.size)); clear hb hbox)
      | ((with_reducible refine gate_dst (N := 3) rfl ?_); refine box_event rfl (N := 3) rfl (cs := msgC m (.slice B M d) t) (t := 60) ?hr ?_; (case hr => first | (go_simp; done) | (go_simp; rfl)); intro h hh W2 hbox hb; clear hh; have HS : Hid (Sm w W2 g h n m A B L M c d ts us s t) := Lib.hid ⟨HX.out.out hb, hbox, Kd.C_below HR.out.1 (HB.out.trans (hb.mono HB.out.size)), Kd.C_below HR.out.2 (HB.out.trans (hb.mono HB.out.size)), HB.out.trans (hb.mono HB.out.size)⟩; have c10 : W2.cell? ⟨g, 10, none⟩ = some (.slice A L c) := HS.out.one.cell 10; have c11 : W2.cell? ⟨g, 11, none⟩ = some (.string s) := HS.out.one.cell 11; have d10 : W2.cell? ⟨h, 10, none⟩ = some (.slice B M d) := HS.out.two.cell 10; have d11 : W2.cell? ⟨h, 11, none⟩ = some (.string t) := HS.out.two.cell 11; clear hb hbox)
      | ((with_reducible refine gate_dst (N := 7) rfl ?_); refine wpList_load_part _ rfl (.tmp 6) 58 rfl g 0 #[.int .i64 (n 0), .int .i64 (n 1), .int .i64 (n 2), .int .i64 (n 3), .int .i64 (n 4), .int .i64 (n 5), .int .i64 (n 6), .int .i64 (n 7), .int .i64 (n 8), .int .i64 (n 9)] rfl aggArr sizeArr 60 _ HS.out.one ?_ ?_; exact numsC_part n _ _)
      | ((with_reducible refine gate_dst (N := 9) rfl ?_); refine wpList_load_part _ rfl (.tmp 8) 58 rfl h 0 #[.int .i64 (m 0), .int .i64 (m 1), .int .i64 (m 2), .int .i64 (m 3), .int .i64 (m 4), .int .i64 (m 5), .int .i64 (m 6), .int .i64 (m 7), .int .i64 (m 8), .int .i64 (m 9)] rfl aggArr sizeArr 60 _ HS.out.two ?_ ?_; exact numsC_part m _ _)
      | fail)
    go_ret
    exact ⟨rfl, HS.out.below⟩
  | true =>
    rw [hq] at hne
    by_cases hst : s = t
    · subst hst
      by_cases hlm : M = L
      · subst hlm
        have HLL := Lib.hid (hM.out.trans hL.out.symm)
        have HQ := Lib.hid hq
        clear hq
        go_enter Try.func22, Try.ntmps22
        go_wp2_with (first
          | ((with_reducible refine gate_dst (N := 2) rfl ?_); refine box_event rfl (N := 2) rfl (cs := msgC n (.slice A M c) s) (t := 60) ?hr ?_; (case hr => first | (go_simp; done) | (go_simp; rfl)); intro g hg W1 hbox hb; clear hg; have HX := Lib.hid (show Blk W1 g 60 (msgC n (.slice A M c) s) from hbox); have HB := Lib.hid (HBe.out.trans (hb.mono HBe.out.size)); clear hb hbox)
          | ((with_reducible refine gate_dst (N := 3) rfl ?_); refine box_event rfl (N := 3) rfl (cs := msgC m (.slice B M d) s) (t := 60) ?hr ?_; (case hr => first | (go_simp; done) | (go_simp; rfl)); intro h hh W2 hbox hb; clear hh; have HS : Hid (Sm w W2 g h n m A B M M c d ts us s s) := Lib.hid ⟨HX.out.out hb, hbox, Kd.C_below HR.out.1 (HB.out.trans (hb.mono HB.out.size)), Kd.C_below HR.out.2 (HB.out.trans (hb.mono HB.out.size)), HB.out.trans (hb.mono HB.out.size)⟩; have c10 : W2.cell? ⟨g, 10, none⟩ = some (.slice A M c) := HS.out.one.cell 10; have c11 : W2.cell? ⟨g, 11, none⟩ = some (.string s) := HS.out.one.cell 11; have d10 : W2.cell? ⟨h, 10, none⟩ = some (.slice B M d) := HS.out.two.cell 10; have d11 : W2.cell? ⟨h, 11, none⟩ = some (.string s) := HS.out.two.cell 11; clear hb hbox)
          | ((with_reducible refine gate_dst (N := 7) rfl ?_); refine wpList_load_part _ rfl (.tmp 6) 58 rfl g 0 #[.int .i64 (n 0), .int .i64 (n 1), .int .i64 (n 2), .int .i64 (n 3), .int .i64 (n 4), .int .i64 (n 5), .int .i64 (n 6), .int .i64 (n 7), .int .i64 (n 8), .int .i64 (n 9)] rfl aggArr sizeArr 60 _ HS.out.one ?_ ?_; exact numsC_part n _ _)
          | ((with_reducible refine gate_dst (N := 9) rfl ?_); refine wpList_load_part _ rfl (.tmp 8) 58 rfl h 0 #[.int .i64 (m 0), .int .i64 (m 1), .int .i64 (m 2), .int .i64 (m 3), .int .i64 (m 4), .int .i64 (m 5), .int .i64 (m 6), .int .i64 (m 7), .int .i64 (m 8), .int .i64 (m 9)] rfl aggArr sizeArr 60 _ HS.out.two ?_ ?_; exact numsC_part m _ _)
          | fail)
        go_loopw [30] (fun kv W' => ∃ k : Nat, k ≤ M ∧ kv = .int .i64 (k : Int) ∧ Hid (Sm w W' g h n m A B M M c d ts us s s) ∧ Hid (∀ j : Nat, j < k → rd ts (j : Int) = rd us (j : Int))) (fun kv _ => M - (intOf kv).toNat)
        case atStart => exact ⟨0, by omega, rfl, HS, Lib.hid (fun j hj => by omega)⟩
        case round =>
          clear HS c10 d10 c11 d11
          obtain ⟨k, hk, rfl, HS0, HP⟩ := hrel
          by_cases hlt : k < M
          · obtain ⟨ad, hA, had⟩ := KI_at HS0.out.ct (by omega)
            obtain ⟨bd, hB, hbd⟩ := KI_at HS0.out.cu (by omega)
            have hx := had k hlt
            have hy := hbd k hlt
            subst hA
            subst hB
            have hkI : (k : Int) < (M : Int) := by omega
            obtain ⟨x, hxe⟩ : ∃ x, x = rd ts (k : Int) := ⟨_, rfl⟩
            obtain ⟨y, hye⟩ : ∃ y, y = rd us (k : Int) := ⟨_, rfl⟩
            rw [← hxe] at hx
            rw [← hye] at hy
            have c10 : wr.cell? ⟨g, 10, none⟩ = some (.slice (some ad) M c) := HS0.out.one.cell 10
            have d10 : wr.cell? ⟨h, 10, none⟩ = some (.slice (some bd) M d) := HS0.out.two.cell 10
            have HS : Hid (wr.drew.cell? ⟨g, 10, none⟩ = some (.slice (some ad) M c) ∧ wr.drew.cell? ⟨h, 10, none⟩ = some (.slice (some bd) M d) ∧ wr.drew.cell? (ad.add k) = some (.int .i64 x) ∧ wr.drew.cell? (bd.add k) = some (.int .i64 y)) := Lib.hid ⟨c10, d10, hx, hy⟩
            have HS1 := Lib.hid HS0.out.drew
            have HXY := Lib.hid (And.intro hxe hye)
            clear had hbd hxe hye c10 d10 hx hy HS0
            by_cases hxy : x = y
            · subst hxy
              go_wp2_with fail
              refine start_ (n := 11) (S := fun W' => W'.cell? ⟨g, 10, none⟩ = some (.slice (some ad) M c) ∧ W'.cell? ⟨h, 10, none⟩ = some (.slice (some bd) M d) ∧ W'.cell? (ad.add k) = some (.int .i64 x) ∧ W'.cell? (bd.add k) = some (.int .i64 x)) (ds := []) #[false, false, false, false, false, false, false, false, false, false, false] (by kernel_rfl) rfl rfl (HS.out) (fun hHeld => ?_)
              refine pure_ (i := 0) (N := some 33) (v := ?_) (a' := ?_) #[true, false, false, false, false, false, false, false, false, false, false] rfl rfl (by kernel_rfl) (fun _ _ _ h => h) (Or.inl ⟨by rfl, ?_⟩) ?_ ?_
              rotate_left
              · intro w'
                go_simp
                (try with_reducible rfl)
              rotate_left
              · simp only [Act.put, List.setIfInBounds_toArray, List.set_cons_zero, List.set_cons_succ]
                rfl
              refine pure_ (i := 2) (N := some 35) (v := ?_) (a' := ?_) #[true, false, true, false, false, false, false, false, false, false, false] rfl rfl (by kernel_rfl) (fun _ _ _ h => h) (Or.inl ⟨by rfl, ?_⟩) ?_ ?_
              rotate_left
              · intro w'
                go_simp
                (try with_reducible rfl)
              rotate_left
              · simp only [Act.put, List.setIfInBounds_toArray, List.set_cons_zero, List.set_cons_succ]
                rfl
              refine pure_ (i := 5) (N := some 38) (v := ?_) (a' := ?_) #[true, false, true, false, false, true, false, false, false, false, false] rfl rfl (by kernel_rfl) (fun _ _ _ h => h) (Or.inl ⟨by rfl, ?_⟩) ?_ ?_
              rotate_left
              · intro w'
                go_simp
                (try with_reducible rfl)
              rotate_left
              · simp only [Act.put, List.setIfInBounds_toArray, List.set_cons_zero, List.set_cons_succ]
                rfl
              refine pure_ (i := 7) (N := some 40) (v := ?_) (a' := ?_) #[true, false, true, false, false, true, false, true, false, false, false] rfl rfl (by kernel_rfl) (fun _ _ _ h => h) (Or.inl ⟨by rfl, ?_⟩) ?_ ?_
              rotate_left
              · intro w'
                go_simp
                (try with_reducible rfl)
              rotate_left
              · simp only [Act.put, List.setIfInBounds_toArray, List.set_cons_zero, List.set_cons_succ]
                rfl
              refine take_ (i := 1) (N := some 34) (v := ?_) (a' := ?_) #[true, true, true, false, false, true, false, true, false, false, false] rfl rfl (by kernel_rfl) (fun _ _ _ h => h) (Or.inl ⟨by rfl, ?_⟩) hHeld ?_ ?_
              rotate_left
              · intro w' s0
                (try dsimp only at s0)
                obtain ⟨t0, t1, t2, t3⟩ := s0
                go_simp
                (try with_reducible rfl)
              rotate_left
              · simp only [Act.put, List.setIfInBounds_toArray, List.set_cons_zero, List.set_cons_succ]
                rfl
              refine pure_ (i := 3) (N := some 36) (v := ?_) (a' := ?_) #[true, true, true, true, false, true, false, true, false, false, false] rfl rfl (by kernel_rfl) (fun _ _ _ h => h) (Or.inl ⟨by rfl, ?_⟩) ?_ ?_
              rotate_left
              · intro w'
                go_simp
                (try with_reducible rfl)
              rotate_left
              · simp only [Act.put, List.setIfInBounds_toArray, List.set_cons_zero, List.set_cons_succ]
                rfl
              refine take_ (i := 4) (N := some 37) (v := ?_) (a' := ?_) #[true, true, true, true, true, true, false, true, false, false, false] rfl rfl (by kernel_rfl) (fun _ _ _ h => h) (Or.inl ⟨by rfl, ?_⟩) hHeld ?_ ?_
              rotate_left
              · intro w' s0
                (try dsimp only at s0)
                obtain ⟨t0, t1, t2, t3⟩ := s0
                go_simp
                (try with_reducible rfl)
              rotate_left
              · simp only [Act.put, List.setIfInBounds_toArray, List.set_cons_zero, List.set_cons_succ]
                rfl
              refine take_ (i := 6) (N := some 39) (v := ?_) (a' := ?_) #[true, true, true, true, true, true, true, true, false, false, false] rfl rfl (by kernel_rfl) (fun _ _ _ h => h) (Or.inl ⟨by rfl, ?_⟩) hHeld ?_ ?_
              rotate_left
              · intro w' s0
                (try dsimp only at s0)
                obtain ⟨t0, t1, t2, t3⟩ := s0
                go_simp
                (try with_reducible rfl)
              rotate_left
              · simp only [Act.put, List.setIfInBounds_toArray, List.set_cons_zero, List.set_cons_succ]
                rfl
              refine pure_ (i := 8) (N := some 41) (v := ?_) (a' := ?_) #[true, true, true, true, true, true, true, true, true, false, false] rfl rfl (by kernel_rfl) (fun _ _ _ h => h) (Or.inl ⟨by rfl, ?_⟩) ?_ ?_
              rotate_left
              · intro w'
                go_simp
                (try with_reducible rfl)
              rotate_left
              · simp only [Act.put, List.setIfInBounds_toArray, List.set_cons_zero, List.set_cons_succ]
                rfl
              refine take_ (i := 9) (N := some 42) (v := ?_) (a' := ?_) #[true, true, true, true, true, true, true, true, true, true, false] rfl rfl (by kernel_rfl) (fun _ _ _ h => h) (Or.inl ⟨by rfl, ?_⟩) hHeld ?_ ?_
              rotate_left
              · intro w' s0
                (try dsimp only at s0)
                obtain ⟨t0, t1, t2, t3⟩ := s0
                go_simp
                (try with_reducible rfl)
              rotate_left
              · simp only [Act.put, List.setIfInBounds_toArray, List.set_cons_zero, List.set_cons_succ]
                rfl
              refine pure_ (i := 10) (N := some 43) (v := ?_) (a' := ?_) #[true, true, true, true, true, true, true, true, true, true, true] rfl rfl (by kernel_rfl) (fun _ _ _ h => h) (Or.inl ⟨by rfl, ?_⟩) ?_ ?_
              rotate_left
              · intro w'
                go_simp
                (try with_reducible rfl)
              rotate_left
              · simp only [Act.put, List.setIfInBounds_toArray, List.set_cons_zero, List.set_cons_succ]
                rfl
              refine done_ (by kernel_rfl) ?_
              go_wp2_with fail
              go_roundw
              case rel => exact ⟨k + 1, by omega, by go_num, HS1, Lib.hid (fun j hj => by
                by_cases e : j = k
                · rw [e, ← HXY.out.1, ← HXY.out.2]
                · exact HP.out j (by omega))⟩
              case measure => simp [intOf]; omega
            · have hB : Hid (sameB n m ts us s s = false) := Lib.hid (by
                unfold sameB
                have : ¬ ts = us := fun e => hxy (by rw [HXY.out.1, HXY.out.2, e])
                rw [decide_eq_false this, Bool.and_false])
              have x1 : (x == y) = false := beq_eq_false_iff_ne.2 hxy
              have x2 : (x != y) = true := by rw [bne, x1]; rfl
              clear hxy
              go_wp2_with fail
              refine start_ (n := 11) (S := fun W' => W'.cell? ⟨g, 10, none⟩ = some (.slice (some ad) M c) ∧ W'.cell? ⟨h, 10, none⟩ = some (.slice (some bd) M d) ∧ W'.cell? (ad.add k) = some (.int .i64 x) ∧ W'.cell? (bd.add k) = some (.int .i64 y)) (ds := []) #[false, false, false, false, false, false, false, false, false, false, false] (by kernel_rfl) rfl rfl (HS.out) (fun hHeld => ?_)
              refine pure_ (i := 0) (N := some 33) (v := ?_) (a' := ?_) #[true, false, false, false, false, false, false, false, false, false, false] rfl rfl (by kernel_rfl) (fun _ _ _ h => h) (Or.inl ⟨by rfl, ?_⟩) ?_ ?_
              rotate_left
              · intro w'
                go_simp
                (try with_reducible rfl)
              rotate_left
              · simp only [Act.put, List.setIfInBounds_toArray, List.set_cons_zero, List.set_cons_succ]
                rfl
              refine pure_ (i := 2) (N := some 35) (v := ?_) (a' := ?_) #[true, false, true, false, false, false, false, false, false, false, false] rfl rfl (by kernel_rfl) (fun _ _ _ h => h) (Or.inl ⟨by rfl, ?_⟩) ?_ ?_
              rotate_left
              · intro w'
                go_simp
                (try with_reducible rfl)
              rotate_left
              · simp only [Act.put, List.setIfInBounds_toArray, List.set_cons_zero, List.set_cons_succ]
                rfl
              refine pure_ (i := 5) (N := some 38) (v := ?_) (a' := ?_) #[true, false, true, false, false, true, false, false, false, false, false] rfl rfl (by kernel_rfl) (fun _ _ _ h => h) (Or.inl ⟨by rfl, ?_⟩) ?_ ?_
              rotate_left
              · intro w'
                go_simp
                (try with_reducible rfl)
              rotate_left
              · simp only [Act.put, List.setIfInBounds_toArray, List.set_cons_zero, List.set_cons_succ]
                rfl
              refine pure_ (i := 7) (N := some 40) (v := ?_) (a' := ?_) #[true, false, true, false, false, true, false, true, false, false, false] rfl rfl (by kernel_rfl) (fun _ _ _ h => h) (Or.inl ⟨by rfl, ?_⟩) ?_ ?_
              rotate_left
              · intro w'
                go_simp
                (try with_reducible rfl)
              rotate_left
              · simp only [Act.put, List.setIfInBounds_toArray, List.set_cons_zero, List.set_cons_succ]
                rfl
              refine take_ (i := 1) (N := some 34) (v := ?_) (a' := ?_) #[true, true, true, false, false, true, false, true, false, false, false] rfl rfl (by kernel_rfl) (fun _ _ _ h => h) (Or.inl ⟨by rfl, ?_⟩) hHeld ?_ ?_
              rotate_left
              · intro w' s0
                (try dsimp only at s0)
                obtain ⟨t0, t1, t2, t3⟩ := s0
                go_simp
                (try with_reducible rfl)
              rotate_left
              · simp only [Act.put, List.setIfInBounds_toArray, List.set_cons_zero, List.set_cons_succ]
                rfl
              refine pure_ (i := 3) (N := some 36) (v := ?_) (a' := ?_) #[true, true, true, true, false, true, false, true, false, false, false] rfl rfl (by kernel_rfl) (fun _ _ _ h => h) (Or.inl ⟨by rfl, ?_⟩) ?_ ?_
              rotate_left
              · intro w'
                go_simp
                (try with_reducible rfl)
              rotate_left
              · simp only [Act.put, List.setIfInBounds_toArray, List.set_cons_zero, List.set_cons_succ]
                rfl
              refine take_ (i := 4) (N := some 37) (v := ?_) (a' := ?_) #[true, true, true, true, true, true, false, true, false, false, false] rfl rfl (by kernel_rfl) (fun _ _ _ h => h) (Or.inl ⟨by rfl, ?_⟩) hHeld ?_ ?_
              rotate_left
              · intro w' s0
                (try dsimp only at s0)
                obtain ⟨t0, t1, t2, t3⟩ := s0
                go_simp
                (try with_reducible rfl)
              rotate_left
              · simp only [Act.put, List.setIfInBounds_toArray, List.set_cons_zero, List.set_cons_succ]
                rfl
              refine take_ (i := 6) (N := some 39) (v := ?_) (a' := ?_) #[true, true, true, true, true, true, true, true, false, false, false] rfl rfl (by kernel_rfl) (fun _ _ _ h => h) (Or.inl ⟨by rfl, ?_⟩) hHeld ?_ ?_
              rotate_left
              · intro w' s0
                (try dsimp only at s0)
                obtain ⟨t0, t1, t2, t3⟩ := s0
                go_simp
                (try with_reducible rfl)
              rotate_left
              · simp only [Act.put, List.setIfInBounds_toArray, List.set_cons_zero, List.set_cons_succ]
                rfl
              refine pure_ (i := 8) (N := some 41) (v := ?_) (a' := ?_) #[true, true, true, true, true, true, true, true, true, false, false] rfl rfl (by kernel_rfl) (fun _ _ _ h => h) (Or.inl ⟨by rfl, ?_⟩) ?_ ?_
              rotate_left
              · intro w'
                go_simp
                (try with_reducible rfl)
              rotate_left
              · simp only [Act.put, List.setIfInBounds_toArray, List.set_cons_zero, List.set_cons_succ]
                rfl
              refine take_ (i := 9) (N := some 42) (v := ?_) (a' := ?_) #[true, true, true, true, true, true, true, true, true, true, false] rfl rfl (by kernel_rfl) (fun _ _ _ h => h) (Or.inl ⟨by rfl, ?_⟩) hHeld ?_ ?_
              rotate_left
              · intro w' s0
                (try dsimp only at s0)
                obtain ⟨t0, t1, t2, t3⟩ := s0
                go_simp
                (try with_reducible rfl)
              rotate_left
              · simp only [Act.put, List.setIfInBounds_toArray, List.set_cons_zero, List.set_cons_succ]
                rfl
              refine pure_ (i := 10) (N := some 43) (v := ?_) (a' := ?_) #[true, true, true, true, true, true, true, true, true, true, true] rfl rfl (by kernel_rfl) (fun _ _ _ h => h) (Or.inl ⟨by rfl, ?_⟩) ?_ ?_
              rotate_left
              · intro w'
                go_simp
                (try with_reducible rfl)
              rotate_left
              · simp only [Act.put, List.setIfInBounds_toArray, List.set_cons_zero, List.set_cons_succ]
                rfl
              refine done_ (by kernel_rfl) ?_
              go_wp2_with fail
              go_ret
              exact ⟨by rw [hB.out]; rfl, HS1.out.below⟩
          · obtain rfl : k = M := by omega
            have hB : Hid (sameB n m ts us s s = true) := Lib.hid (by
              unfold sameB
              have : ts = us := rd_ext HLL.out (fun j hj => HP.out j (by have := hL.out; omega))
              rw [HQ.out, decide_eq_true this]
              simp)
            go_wp2_with fail
            go_ret
            exact ⟨by rw [hB.out]; rfl, HS0.out.below⟩
      · have hB : sameB n m ts us s s = false := by
          unfold sameB
          have : ¬ ts = us := fun e => hlm (by rw [← hM.out, ← hL.out, e])
          rw [decide_eq_false this, Bool.and_false]
        rw [hB]
        have l1 : (L == M) = false := beq_eq_false_iff_ne.2 (fun e => hlm e.symm)
        have l2 : (L != M) = true := by rw [bne, l1]; rfl
        have l3 : ((L : Int) == (M : Int)) = false := beq_eq_false_iff_ne.2 (fun e => hlm (by omega))
        have l4 : ((L : Int) != (M : Int)) = true := by rw [bne, l3]; rfl
        have l5 : ¬ L = M := fun e => hlm e.symm
        clear hq hB hlm
        go_enter Try.func22, Try.ntmps22
        go_wp2_with (first
          | ((with_reducible refine gate_dst (N := 2) rfl ?_); refine box_event rfl (N := 2) rfl (cs := msgC n (.slice A L c) s) (t := 60) ?hr ?_; (case hr => first | (go_simp; done) | (go_simp; rfl)); intro g hg W1 hbox hb; clear hg; have HX := Lib.hid (show Blk W1 g 60 (msgC n (.slice A L c) s) from hbox); have HB := Lib.hid (HBe.out.trans (hb.mono HBe.out.size)); clear hb hbox)
          | ((with_reducible refine gate_dst (N := 3) rfl ?_); refine box_event rfl (N := 3) rfl (cs := msgC m (.slice B M d) s) (t := 60) ?hr ?_; (case hr => first | (go_simp; done) | (go_simp; rfl)); intro h hh W2 hbox hb; clear hh; have HS : Hid (Sm w W2 g h n m A B L M c d ts us s s) := Lib.hid ⟨HX.out.out hb, hbox, Kd.C_below HR.out.1 (HB.out.trans (hb.mono HB.out.size)), Kd.C_below HR.out.2 (HB.out.trans (hb.mono HB.out.size)), HB.out.trans (hb.mono HB.out.size)⟩; have c10 : W2.cell? ⟨g, 10, none⟩ = some (.slice A L c) := HS.out.one.cell 10; have c11 : W2.cell? ⟨g, 11, none⟩ = some (.string s) := HS.out.one.cell 11; have d10 : W2.cell? ⟨h, 10, none⟩ = some (.slice B M d) := HS.out.two.cell 10; have d11 : W2.cell? ⟨h, 11, none⟩ = some (.string s) := HS.out.two.cell 11; clear hb hbox)
          | ((with_reducible refine gate_dst (N := 7) rfl ?_); refine wpList_load_part _ rfl (.tmp 6) 58 rfl g 0 #[.int .i64 (n 0), .int .i64 (n 1), .int .i64 (n 2), .int .i64 (n 3), .int .i64 (n 4), .int .i64 (n 5), .int .i64 (n 6), .int .i64 (n 7), .int .i64 (n 8), .int .i64 (n 9)] rfl aggArr sizeArr 60 _ HS.out.one ?_ ?_; exact numsC_part n _ _)
          | ((with_reducible refine gate_dst (N := 9) rfl ?_); refine wpList_load_part _ rfl (.tmp 8) 58 rfl h 0 #[.int .i64 (m 0), .int .i64 (m 1), .int .i64 (m 2), .int .i64 (m 3), .int .i64 (m 4), .int .i64 (m 5), .int .i64 (m 6), .int .i64 (m 7), .int .i64 (m 8), .int .i64 (m 9)] rfl aggArr sizeArr 60 _ HS.out.two ?_ ?_; exact numsC_part m _ _)
          | fail)
        go_ret
        exact ⟨rfl, HS.out.below⟩
    · have hB : sameB n m ts us s t = false := by unfold sameB; rw [decide_eq_false hst, Bool.and_false, Bool.false_and]
      rw [hB]
      have hT : (s.toList == t.toList) = false := text_unlike hst
      have hT2 : (s.toList != t.toList) = true := by rw [bne, hT]; rfl
      have hT3 : decide (s = t) = false := decide_eq_false hst
      clear hq hB hst
      go_enter Try.func22, Try.ntmps22
      go_wp2_with (first
        | ((with_reducible refine gate_dst (N := 2) rfl ?_); refine box_event rfl (N := 2) rfl (cs := msgC n (.slice A L c) s) (t := 60) ?hr ?_; (case hr => first | (go_simp; done) | (go_simp; rfl)); intro g hg W1 hbox hb; clear hg; have HX := Lib.hid (show Blk W1 g 60 (msgC n (.slice A L c) s) from hbox); have HB := Lib.hid (HBe.out.trans (hb.mono HBe.out.size)); clear hb hbox)
        | ((with_reducible refine gate_dst (N := 3) rfl ?_); refine box_event rfl (N := 3) rfl (cs := msgC m (.slice B M d) t) (t := 60) ?hr ?_; (case hr => first | (go_simp; done) | (go_simp; rfl)); intro h hh W2 hbox hb; clear hh; have HS : Hid (Sm w W2 g h n m A B L M c d ts us s t) := Lib.hid ⟨HX.out.out hb, hbox, Kd.C_below HR.out.1 (HB.out.trans (hb.mono HB.out.size)), Kd.C_below HR.out.2 (HB.out.trans (hb.mono HB.out.size)), HB.out.trans (hb.mono HB.out.size)⟩; have c10 : W2.cell? ⟨g, 10, none⟩ = some (.slice A L c) := HS.out.one.cell 10; have c11 : W2.cell? ⟨g, 11, none⟩ = some (.string s) := HS.out.one.cell 11; have d10 : W2.cell? ⟨h, 10, none⟩ = some (.slice B M d) := HS.out.two.cell 10; have d11 : W2.cell? ⟨h, 11, none⟩ = some (.string t) := HS.out.two.cell 11; clear hb hbox)
        | ((with_reducible refine gate_dst (N := 7) rfl ?_); refine wpList_load_part _ rfl (.tmp 6) 58 rfl g 0 #[.int .i64 (n 0), .int .i64 (n 1), .int .i64 (n 2), .int .i64 (n 3), .int .i64 (n 4), .int .i64 (n 5), .int .i64 (n 6), .int .i64 (n 7), .int .i64 (n 8), .int .i64 (n 9)] rfl aggArr sizeArr 60 _ HS.out.one ?_ ?_; exact numsC_part n _ _)
        | ((with_reducible refine gate_dst (N := 9) rfl ?_); refine wpList_load_part _ rfl (.tmp 8) 58 rfl h 0 #[.int .i64 (m 0), .int .i64 (m 1), .int .i64 (m 2), .int .i64 (m 3), .int .i64 (m 4), .int .i64 (m 5), .int .i64 (m 6), .int .i64 (m 7), .int .i64 (m 8), .int .i64 (m 9)] rfl aggArr sizeArr 60 _ HS.out.two ?_ ?_; exact numsC_part m _ _)
        | fail)
      go_ret
      exact ⟨rfl, HS.out.below⟩
theorem same_any (n m : Nat → Int) (A B : Option Addr) (c d : Nat) (ts us : List Int) (s t : ByteArray) (w : World) (hr : KI.C w A ts.length ts) (hu : KI.C w B us.length us) (hc : ts.length ≤ c) (hd : us.length ≤ d) (hcm : c ≤ 9223372036854775807) (hdm : d ≤ 9223372036854775807) :
    Calls Try.prog 22 #[.agg (msgC n (.slice A ts.length c) s), .agg (msgC m (.slice B us.length d) t)] w (Sway w (sameB n m ts us s t)) :=
  same_in n m A B _ _ c d ts us s t w hr hu (Lib.hid rfl) (Lib.hid rfl) hc hd hcm hdm
end Go.Proofs.Ytjlfoiocceepjaa
