/-
  The document's text of a message, walked.
-/
import Derived.Test.YtjlfoiocceepjaaDoorSame
import Derived.Test.YtjlfoiocceepjaaDoorRea
namespace Go.Proofs.YtjlfoiocceepjaaDoor
open Go.RowKit Go.Proofs.YtjlfoiocceepjaaDoorW.PrintWords Go.Proofs.YtjlfoiocceepjaaDoorW.PrintLast Go.Proofs.YtjlfoiocceepjaaDoorW.PrintMore
set_option linter.unusedVariables false
set_option linter.unusedSimpArgs false

/-- groups 6 to 7 - i -/
def upL (n : Nat) : Nat → List UInt8
  | 0 => []
  | i + 1 => upL n i ++ grp n (6 - i)
theorem upL_all (n : Nat) : upL n 6 = hiL n 6 := by simp [upL, hiL]
theorem div_zero (n j : Nat) (h : n / 2 ^ (7 * j) = 0) : n / 2 ^ (7 * (j + 1)) = 0 := by
  have := div_step n j
  omega
theorem upL_zero (n : Nat) : ∀ i, i ≤ 6 → n / 2 ^ (7 * (7 - i)) = 0 → upL n i = []
  | 0, _, _ => rfl
  | i + 1, hi, h => by
    have e : 7 - (i + 1) = 6 - i := by omega
    rw [e] at h
    have h2 := div_zero n (6 - i) h
    have e2 : 6 - i + 1 = 7 - i := by omega
    rw [e2] at h2
    rw [upL, upL_zero n i (by omega) h2, grp, if_pos h]
    rfl
theorem tdiv_nat (x : Nat) : Int.tdiv (x : Int) 128 = ((x / 128 : Nat) : Int) := by
  rw [Int.tdiv_eq_ediv_of_nonneg (by omega)]; omega
theorem tmod_nat (x : Nat) : Int.tmod (x : Int) 128 = ((x % 128 : Nat) : Int) := by
  rw [Int.tmod_eq_emod_of_nonneg (by omega)]; omega
theorem str_one (m : Nat) (h : m < 256) : strOfNums [(m : Int)] = str [UInt8.ofNat m] := by
  rw [← ints_str, ints_byte m h]
theorem number_step (k x : Nat) (T : List UInt8) (hx : x < 562949953421312) (h0 : x ≠ 0) (hT : T.length ≤ 20) : PrW.tillerref15_number.l0 (k + 1) (x : Int) (str T) = PrW.tillerref15_number.l0 k ((x / 128 : Nat) : Int) (str (UInt8.ofNat (x % 128 + 128) :: T)) := by
  have hb : wrap64 (Int.tmod (x : Int) 128 + 128) % 256 = ((x % 128 + 128 : Nat) : Int) := by
    rw [tmod_nat]; unfold wrap64; omega
  have hd : wrap64 (Int.tdiv (x : Int) 128) = ((x / 128 : Nat) : Int) := by
    rw [tdiv_nat]; unfold wrap64; omega
  have h1 : (x : Int) > 0 := by omega
  have h2 : (str [UInt8.ofNat (x % 128 + 128)]).size + (str T).size ≤ 9223372036854775807 := by rw [str_size, str_size, List.length_singleton]; omega
  rw [PrW.tillerref15_number.l0, if_pos h1, Option.bind_some, hb, hd, str_one _ (by omega), if_pos h2, str_append, List.singleton_append]
theorem number_end (k : Nat) (T : ByteArray) : PrW.tillerref15_number.l0 (k + 1) ((0 : Nat) : Int) T = some T := by
  rw [PrW.tillerref15_number.l0, if_neg (by omega)]
theorem number_l0 (n : Nat) (hn : n < 562949953421312) : ∀ (i : Nat) (T : List UInt8), i ≤ 6 → T.length + i ≤ 20 → PrW.tillerref15_number.l0 (i + 1) ((n / 2 ^ (7 * (7 - i)) : Nat) : Int) (str T) = some (str (upL n i ++ T))
  | 0, T, _, _ => by
    have h0 : n / 2 ^ (7 * (6 + 1)) = 0 := Nat.div_eq_of_lt (by omega)
    have e : 7 * (7 - 0) = 7 * (6 + 1) := rfl
    rw [e, h0, number_end]
    rfl
  | i + 1, T, hi, hT => by
    have e : 7 - (i + 1) = 6 - i := by omega
    have hst := div_step n (6 - i)
    have e2 : 6 - i + 1 = 7 - i := by omega
    rw [e2] at hst
    have hz := upL_zero n (i + 1) hi
    have ih := number_l0 n hn i (UInt8.ofNat (n / 2 ^ (7 * (6 - i)) % 128 + 128) :: T) (by omega) (by rw [List.length_cons]; omega)
    have hxn : n / 2 ^ (7 * (6 - i)) ≤ n := Nat.div_le_self _ _
    have hg : grp n (6 - i) = if n / 2 ^ (7 * (6 - i)) = 0 then [] else [UInt8.ofNat (n / 2 ^ (7 * (6 - i)) % 128 + 128)] := rfl
    rw [e] at hz ⊢
    generalize n / 2 ^ (7 * (6 - i)) = x at *
    generalize n / 2 ^ (7 * (7 - i)) = y at *
    by_cases h0 : x = 0
    · rw [hz h0, h0, number_end]
      rfl
    · have hy : x / 128 = y := by omega
      rw [number_step (i + 1) x T (by omega) h0 (by omega), hy, ih, upL, hg, if_neg h0]
      simp
theorem rnumber_f (n : Nat) (hn : n < 562949953421312) : PrW.tillerref15_number.f 7 (n : Int) = some (str (putL n)) := by
  unfold PrW.tillerref15_number.f
  have h1 : wrap64 (Int.tdiv (n : Int) 128) = ((n / 2 ^ (7 * (7 - 6)) : Nat) : Int) := by
    have e : 2 ^ (7 * (7 - 6)) = 128 := rfl
    rw [tdiv_nat, e]; unfold wrap64; omega
  have h2 : Int.tmod (n : Int) 128 % 256 = ((n % 128 : Nat) : Int) := by rw [tmod_nat]; omega
  rw [h1, h2, str_one _ (by omega), number_l0 n hn 6 _ (by omega) (by simp), upL_all]
  rfl
theorem rnumber_q (n : Nat) (hn : n ≤ 1099511627776) (w : World) : Calls Tryd.prog 50 #[.int .i64 (n : Int)] w fun e w' => ∃ q : ByteArray, e = .returned (.string q) ∧ q.size ≤ 7 ∧ Hid (q = str (putL n)) ∧ Below w.heap.size w w' :=
  (PrW.tillerref15_number.calls 7 (n : Int) _ w (rnumber_f n (by omega))).mono fun e w' h => ⟨_, h.1, by rw [str_size]; exact putL_length n, Lib.hid rfl, h.2⟩
/-- a number out of the row -/
theorem run_index_row (n : Nat → Int) (k : Nat) (hk : k < 10) (W : World) : (Instr.index 52 (.agg #[.int .i64 (n 0), .int .i64 (n 1), .int .i64 (n 2), .int .i64 (n 3), .int .i64 (n 4), .int .i64 (n 5), .int .i64 (n 6), .int .i64 (n 7), .int .i64 (n 8), .int .i64 (n 9)]) (.int .i64 (k : Int))).run Tryd.prog W = .ok (.int .i64 (n k)) W := by
  have h1 := fun W => run_sizeOf (P := Tryd.prog) (T := 3) (n := 1) (by kernel_rfl) W
  have h2 := part_i64 (P := Tryd.prog) Tryd.underlying3 #[.int .i64 (n 0), .int .i64 (n 1), .int .i64 (n 2), .int .i64 (n 3), .int .i64 (n 4), .int .i64 (n 5), .int .i64 (n 6), .int .i64 (n 7), .int .i64 (n 8), .int .i64 (n 9)] k _ (numsC n k hk) W
  have h3 : (0 : Int) ≤ (k : Int) ∧ (k : Int) < ((10 : Nat) : Int) := by omega
  simp only [Instr.index, asIntOf, Sem.run_bind, Sem.run_pure, Result.andThen_ok, run_underlying Tryd.underlying52, if_pos h3, h1, Nat.mul_one, Int.toNat_natCast, h2]
theorem run_byte_text (x : Int) (h0 : 0 ≤ x) (h1 : x ≤ 255) (W : World) : (convert 37 9 (.slice (some ⟨W.heap.size, 0, none⟩) 1 1)).run Tryd.prog (W.alloc (.cells #[.int .u8 x] 5)) = .ok (.string (str [UInt8.ofNat x.toNat])) (W.alloc (.cells #[.int .u8 x] 5)) := by
  obtain ⟨m, rfl⟩ := Int.eq_ofNat_of_zero_le h0
  have hb := Blk.new W 5 #[.int .u8 (m : Int)] W.heap.size rfl
  exact run_convert_bytes_back _ 37 9 5 ⟨W.heap.size, 0, none⟩ 1 [UInt8.ofNat m] Tryd.underlying37 Tryd.underlying5 Tryd.underlying9 (fun j hj => by
    have hj0 : j = 0 := by simpa using hj
    subst hj0
    have e : (⟨W.heap.size, 0, none⟩ : Addr).add 0 = ⟨W.heap.size, 0, none⟩ := by unfold Addr.add; split <;> simp_all
    rw [e, hb.cell 0]
    simp
    omega)
/-- what Text's loops keep -/
structure Tx (w W : World) (g : Nat) (n : Nat → Int) (A : Option Addr) (L c : Nat) (ts : List Int) (s : ByteArray) : Prop where
  m : Blk W g 54 (msgC n (.slice A L c) s)
  ct : KI.C W A L ts
  below : Below w.heap.size w W
theorem Tx.out {w W W' : World} {g : Nat} {n : Nat → Int} {A : Option Addr} {L c : Nat} {ts : List Int} {s : ByteArray} (h : Tx w W g n A L c ts s) (hb : Below W.heap.size W W') : Tx w W' g n A L c ts s :=
  ⟨h.m.out hb, Kd.C_below h.ct hb, h.below.trans (hb.mono h.below.size)⟩
set_option maxRecDepth 100000 in
set_option maxHeartbeats 8000000 in
theorem rtext_in (n : Nat → Int) (A : Option Addr) (L c : Nat) (ts : List Int) (s M : ByteArray) (w : World) (hr : KI.C w A L ts) (hL : ts.length = L) (hc : L ≤ c) (hcm : c ≤ 9223372036854775807) (hg : Good n ts s.size) (hM : M = str (msgL n ts s.data.toList)) :
    Calls Tryd.prog 37 #[.agg (msgC n (.slice A L c) s)] w fun e w' => e = .returned (.string M) ∧ Below w.heap.size w w' := by
  have HR := Lib.hid hr
  have HL := Lib.hid hL
  have HGd := Lib.hid hg
  have HM := Lib.hid hM
  have hL128 : L ≤ 128 := by have := hg.len; omega
  have hsz := hg.sz
  have HBe := Lib.hid (Below.refl w.heap.size w)
  clear hr hL hg hM
  have hu54 := Tryd.underlying54
  unfold msgC
  go_enter Tryd.func37, Tryd.ntmps37
  go_wp2_with (first
    | ((with_reducible refine gate_dst (N := 1) rfl ?_); refine box_event rfl (N := 1) rfl (cs := msgC n (.slice A L c) s) (t := 54) ?hr ?_; (case hr => first | (go_simp; done) | (go_simp; rfl)); intro g hg W hbox hb; clear hg; have HX : Hid (Tx w W g n A L c ts s) := Lib.hid ⟨hbox, Kd.C_below HR.out (HBe.out.trans hb), HBe.out.trans hb⟩; clear hb hbox)
    | ((with_reducible refine gate_dst (N := 9) rfl ?_); refine wpList_load_part _ rfl (.tmp 8) 52 rfl g 0 #[.int .i64 (n 0), .int .i64 (n 1), .int .i64 (n 2), .int .i64 (n 3), .int .i64 (n 4), .int .i64 (n 5), .int .i64 (n 6), .int .i64 (n 7), .int .i64 (n 8), .int .i64 (n 9)] rfl aggArr sizeArr 54 _ HX.out.m ?_ ?_; exact numsC_part n _ _)
    | fail)
  clear HR HBe
  go_loopw [3, 10] (fun sv kv W' => ∃ (k : Nat) (S : ByteArray), k ≤ 10 ∧ kv = .int .i64 (k : Int) ∧ sv = .string S ∧ S.size ≤ 70 ∧ Hid (S = str (numsL n k)) ∧ Hid (Tx w W' g n A L c ts s)) (fun _ kv _ => 10 - (intOf kv).toNat)
  case atStart => exact ⟨0, ⟨#[]⟩, by omega, rfl, rfl, by decide, Lib.hid rfl, HX⟩
  case round =>
    clear HX
    obtain ⟨k, S, hk, rfl, rfl, hS7, HS, H⟩ := hrel
    by_cases hlt : k < 10
    · obtain ⟨m, hm⟩ := Int.eq_ofNat_of_zero_le (HGd.out.num k hlt).1
      have hmb : m ≤ 1099511627776 := by have := (HGd.out.num k hlt).2; omega
      have hidx := fun W => run_index_row n k hlt W
      rw [hm] at hidx
      have hkI : (k : Int) < 10 := by omega
      have HN : Hid (numsL n (k + 1) = numsL n k ++ putL m) := Lib.hid (by rw [numsL, hm]; rfl)
      have HMM := Lib.hid hm
      clear hm
      go_wp2_with (first
        | (go_at_call 50; (with_reducible refine (rnumber_q m hmb _).mono ?_); rintro e w3 ⟨q, rfl, hq7, HQ, hb⟩; have H3 := Lib.hid (H.out.out hb); clear hb)
        | fail)
      go_roundw
      case rel =>
        refine ⟨k + 1, _, by omega, by go_num, rfl, ?_, Lib.hid (by rw [HS.out, HQ.out, str_append, HN.out]), H3⟩
        have e : S ++ q = str (numsL n (k + 1)) := by rw [HS.out, HQ.out, str_append, HN.out]
        rw [e, str_size]
        have := numsL_length n (k + 1)
        omega
      case measure => simp [intOf]; omega
    · obtain rfl : k = 10 := by omega
      have c10 : wr.cell? ⟨g, 10, none⟩ = some (.slice A L c) := H.out.m.cell 10
      obtain ⟨N0, hN0⟩ : ∃ N0, N0 = numsL n 10 ++ putL L := ⟨_, rfl⟩
      have HN0 := Lib.hid hN0
      clear hN0
      go_wp2_with (first
        | (go_at_call 50; (with_reducible refine (rnumber_q L (by omega) _).mono ?_); rintro e w3 ⟨q, rfl, hq7, HQ, hb⟩; have H3 := Lib.hid (H.out.out hb); clear hb c10; have c10 : w3.cell? ⟨g, 10, none⟩ = some (.slice A L c) := H3.out.m.cell 10)
        | fail)
      have HS3 : Hid (S ++ q = str (N0 ++ toksL (ts.take 0))) := Lib.hid (by rw [HS.out, HQ.out, str_append, HN0.out, List.take_zero]; simp [toksL])
      have hS3 : (S ++ q).size ≤ 77 := by rw [ByteArray.size_append]; omega
      clear HS HQ hS7 hq7 H
      generalize S ++ q = S3 at *
      go_loopw [3, 27] (fun sv kv W' => ∃ (k : Nat) (S : ByteArray), k ≤ L ∧ kv = .int .i64 (k : Int) ∧ sv = .string S ∧ S.size ≤ 77 + k ∧ Hid (S = str (N0 ++ toksL (ts.take k))) ∧ Hid (Tx w W' g n A L c ts s)) (fun _ kv _ => L - (intOf kv).toNat)
      case atStart => exact ⟨0, S3, by omega, rfl, rfl, by omega, HS3, H3⟩
      case round =>
        clear HS3 hS3 H3 c10
        obtain ⟨k, S, hk, rfl, rfl, hS7, HS, H⟩ := hrel
        by_cases hlt : k < L
        · obtain ⟨ad, hA, had⟩ := KI_at H.out.ct (by omega)
          have hx := had k hlt
          have hlt2 : k < ts.length := by rw [HL.out]; exact hlt
          subst hA
          have hkI : (k : Int) < (L : Int) := by omega
          obtain ⟨x, hxe⟩ : ∃ x, x = rd ts (k : Int) := ⟨_, rfl⟩
          have HT := Lib.hid (toksL_take hlt2)
          have hxr : 0 ≤ x ∧ x ≤ 255 := by
            rw [hxe]
            have e : rd ts (k : Int) = ts[k] := by simp [rd, List.getD_eq_getElem?_getD, List.getElem?_eq_getElem hlt2]
            rw [e]
            exact HGd.out.tok _ (List.getElem_mem _)
          rw [← hxe] at hx HT
          obtain ⟨hx0, hx1⟩ := hxr
          have hxm : x % 256 = x := by omega
          obtain ⟨Q, hQ⟩ : ∃ Q, Q = str [UInt8.ofNat x.toNat] := ⟨_, rfl⟩
          have hcv := fun W => run_byte_text x hx0 hx1 W
          rw [← hQ] at hcv
          have hQ1 : Q.size ≤ 1 := by rw [hQ, str_size]; simp
          have HQ := Lib.hid hQ
          clear had hxe hlt2 hQ
          go_wp2_with fail
          have H3 : Hid (Tx w (wr.alloc (.cells #[.int .u8 x] 5)) g n (some ad) L c ts s) := Lib.hid (H.out.out ((Below.refl _ _).alloc (Nat.le_refl _) _))
          go_roundw
          case rel => exact ⟨k + 1, _, by omega, by go_num, rfl, by rw [ByteArray.size_append]; omega, Lib.hid (by rw [HS.out, HQ.out, str_append, HT.out, List.append_assoc]), H3⟩
          case measure => simp [intOf]; omega
        · obtain rfl : k = L := by omega
          have HF : Hid (∀ q : ByteArray, q = str (putL s.size) → S ++ q ++ s = M) := Lib.hid (fun q hq => by
            rw [HM.out, HS.out, hq, str_append, HN0.out, List.take_of_length_le (Nat.le_of_eq HL.out)]
            have := msg_text n ts s
            rw [HL.out] at this
            rw [this])
          have H4 := Lib.hid (show Tx w wr.drew g n A k c ts s from H.out.out (Below.refl _ _).drew)
          have c11 : wr.drew.cell? ⟨g, 11, none⟩ = some (.string s) := H4.out.m.cell 11
          clear HS H
          go_wp2_with fail
          refine start_ (n := 10) (S := fun W' => W'.cell? ⟨g, 11, none⟩ = some (.string s)) (ds := []) #[false, false, false, false, false, false, false, false, false, false] (by kernel_rfl) rfl rfl (c11) (fun hHeld => ?_)
          refine pure_ (i := 0) (N := some 38) (v := ?_) (a' := ?_) #[true, false, false, false, false, false, false, false, false, false] rfl rfl (by kernel_rfl) (fun _ _ _ h => h) (Or.inl ⟨by rfl, ?_⟩) ?_ ?_
          rotate_left
          · intro w'
            go_simp
            (try with_reducible rfl)
          rotate_left
          · simp only [Act.put, List.setIfInBounds_toArray, List.set_cons_zero, List.set_cons_succ]
            rfl
          refine pure_ (i := 1) (N := some 39) (v := ?_) (a' := ?_) #[true, true, false, false, false, false, false, false, false, false] rfl rfl (by kernel_rfl) (fun _ _ _ h => h) (Or.inl ⟨by rfl, ?_⟩) ?_ ?_
          rotate_left
          · intro w'
            go_simp
            (try with_reducible rfl)
          rotate_left
          · simp only [Act.put, List.setIfInBounds_toArray, List.set_cons_zero, List.set_cons_succ]
            rfl
          refine pure_ (i := 6) (N := some 44) (v := ?_) (a' := ?_) #[true, true, false, false, false, false, true, false, false, false] rfl rfl (by kernel_rfl) (fun _ _ _ h => h) (Or.inl ⟨by rfl, ?_⟩) ?_ ?_
          rotate_left
          · intro w'
            go_simp
            (try with_reducible rfl)
          rotate_left
          · simp only [Act.put, List.setIfInBounds_toArray, List.set_cons_zero, List.set_cons_succ]
            rfl
          refine take_ (i := 2) (N := some 40) (v := ?_) (a' := ?_) #[true, true, true, false, false, false, true, false, false, false] rfl rfl (by kernel_rfl) (fun _ _ _ h => h) (Or.inl ⟨by rfl, ?_⟩) hHeld ?_ ?_
          rotate_left
          · intro w' s0
            (try dsimp only at s0)
            go_simp
            (try with_reducible rfl)
          rotate_left
          · simp only [Act.put, List.setIfInBounds_toArray, List.set_cons_zero, List.set_cons_succ]
            rfl
          refine pure_ (i := 3) (N := some 41) (v := ?_) (a' := ?_) #[true, true, true, true, false, false, true, false, false, false] rfl rfl (by kernel_rfl) (fun _ _ _ h => h) (Or.inl ⟨by rfl, ?_⟩) ?_ ?_
          rotate_left
          · intro w'
            go_simp
            (try with_reducible rfl)
          rotate_left
          · simp only [Act.put, List.setIfInBounds_toArray, List.set_cons_zero, List.set_cons_succ]
            rfl
          refine take_ (i := 7) (N := some 45) (v := ?_) (a' := ?_) #[true, true, true, true, false, false, true, true, false, false] rfl rfl (by kernel_rfl) (fun _ _ _ h => h) (Or.inl ⟨by rfl, ?_⟩) hHeld ?_ ?_
          rotate_left
          · intro w' s0
            (try dsimp only at s0)
            go_simp
            (try with_reducible rfl)
          rotate_left
          · simp only [Act.put, List.setIfInBounds_toArray, List.set_cons_zero, List.set_cons_succ]
            rfl
          refine one_ (i := 4) (N := some 42) (oi := ⟨some 42, Go.Op.call ⟨Go.Callee.value (Go.Operand.func 50), #[Go.Operand.tmp 41], #[3]⟩, 9, "ref.go:56", #[⟨3, Go.Ground.data⟩], none⟩) #[true, true, true, true, true, false, true, true, false, false] rfl rfl (by kernel_rfl) (by decide) (fun K hK => ?_)
          rw [if_pos (by rfl)]
          go_simp
          (go_at_call 50; (with_reducible refine (rnumber_q s.size (by omega) _).mono ?_); rintro e w5 ⟨q3, rfl, hq3, HQ3, hb⟩; have H5 := Lib.hid (H4.out.below.trans (hb.mono H4.out.below.size)); have c5 : w5.cell? ⟨g, 11, none⟩ = some (.string s) := (H4.out.m.out hb).cell 11; have ha1 : ¬ 9223372036854775807 < S.size + q3.size := by omega); (have ha2 : ¬ 9223372036854775807 < S.size + q3.size + s.size := by omega); (have ha3 : ¬ 9223372036854775807 < (S ++ q3).size + s.size := by rw [ByteArray.size_append]; omega); (clear hb)
          refine hK.out _ _ (c5) (fun hHeld => ?_)
          clear hK K
          try simp only [Act.put, List.setIfInBounds_toArray, List.set_cons_zero, List.set_cons_succ]
          refine pure_ (i := 5) (N := some 43) (v := ?_) (a' := ?_) #[true, true, true, true, true, true, true, true, false, false] rfl rfl (by kernel_rfl) (fun _ _ _ h => h) (Or.inl ⟨by rfl, ?_⟩) ?_ ?_
          rotate_left
          · intro w'
            go_simp
            (try with_reducible rfl)
          rotate_left
          · simp only [Act.put, List.setIfInBounds_toArray, List.set_cons_zero, List.set_cons_succ]
            rfl
          refine pure_ (i := 8) (N := some 46) (v := ?_) (a' := ?_) #[true, true, true, true, true, true, true, true, true, false] rfl rfl (by kernel_rfl) (fun _ _ _ h => h) (Or.inl ⟨by rfl, ?_⟩) ?_ ?_
          rotate_left
          · intro w'
            go_simp
            (try with_reducible rfl)
          rotate_left
          · simp only [Act.put, List.setIfInBounds_toArray, List.set_cons_zero, List.set_cons_succ]
            rfl
          refine pure_ (i := 9) (N := some 2) (v := ?_) (a' := ?_) #[true, true, true, true, true, true, true, true, true, true] rfl rfl (by kernel_rfl) (fun _ _ _ h => h) (Or.inl ⟨by rfl, ?_⟩) ?_ ?_
          rotate_left
          · intro w'
            go_simp
            (try with_reducible rfl)
          rotate_left
          · simp only [Act.put, List.setIfInBounds_toArray, List.set_cons_zero, List.set_cons_succ]
            rfl
          refine done_ (by kernel_rfl) ?_
          go_wp2_with fail
          have hfin := HF.out q3 HQ3.out
          go_ret
          exact ⟨by rw [hfin]; rfl, H5.out⟩
theorem rtext_any (n : Nat → Int) (A : Option Addr) (c : Nat) (ts : List Int) (s : ByteArray) (w : World) (hr : KI.C w A ts.length ts) (hc : ts.length ≤ c) (hcm : c ≤ 9223372036854775807) (hg : Good n ts s.size) :
    Calls Tryd.prog 37 #[.agg (msgC n (.slice A ts.length c) s)] w fun e w' => e = .returned (.string (str (msgL n ts s.data.toList))) ∧ Below w.heap.size w w' := rtext_in n A _ c ts s _ w hr rfl hc hcm hg rfl
end Go.Proofs.YtjlfoiocceepjaaDoor
