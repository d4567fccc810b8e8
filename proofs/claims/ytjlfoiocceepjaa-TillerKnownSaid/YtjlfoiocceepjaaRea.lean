/-
  wire.Write, walked.
  wire.Read, walked: of a frame that is none, and of a right message's frame.
-/
import Derived.Test.YtjlfoiocceepjaaMsgL
import Derived.Test.YtjlfoiocceepjaaMsg
import Derived.Test.YtjlfoiocceepjaaPack
import Derived.Deep.LoopGhost
import Derived.Test.YtjlfoiocceepjaaUn
import Derived.Laws.IdiomStrings
namespace Go.Proofs.Ytjlfoiocceepjaa
open Go.RowKit Go.Proofs.YtjlfoiocceepjaaW.PrintWords Go.Proofs.YtjlfoiocceepjaaW.PrintLast Go.Proofs.YtjlfoiocceepjaaW.PrintMore
set_option linter.unusedVariables false
set_option linter.unusedSimpArgs false

set_option maxRecDepth 100000 in
set_option maxHeartbeats 4000000 in
theorem write_bad (n : Nat → Int) (A : Option Addr) (c : Nat) (ts : List Int) (s : ByteArray) (w : World) (hr : KI.C w A ts.length ts) (hc : ts.length ≤ c) (hcm : c ≤ 9223372036854775807) (hs : s.size ≤ 9223372036854775807)
    (p q : Int) (hq : q ≠ 0) (h : chk n ts s.size = (p, q)) :
    Calls Try.prog 13 #[.agg (msgC n (.slice A ts.length c) s)] w fun e w' => e = .returned (.tuple #[.string ⟨#[]⟩, .iface 91 (.agg #[.int .i64 p, .iface 37 (.int .i64 q)])]) ∧ Below w.heap.size w w' := by
  have HR := Lib.hid hr
  have HC : Hid (∀ V, Below w.heap.size w V → Calls Try.prog 27 #[.agg (msgC n (.slice A ts.length c) s)] V fun e w' => e = .returned (.iface 91 (.agg #[.int .i64 p, .iface 37 (.int .i64 q)])) ∧ Below V.heap.size V w') := Lib.hid (fun V hV => (check_any n A c ts s V (Kd.C_below hr hV) hc hcm hs).mono fun e w' h' => ⟨by rw [h'.1, h, errB_some _ _ hq], h'.2⟩)
  clear hr h
  have hu48 := Try.underlying51
  unfold msgC at HC ⊢
  go_enter Try.func13, Try.ntmps13
  go_wp2_with (first
    | ((with_reducible refine gate_dst (N := 1) rfl ?_); refine box_event rfl (N := 1) rfl (cs := msgC n (.slice A ts.length c) s) (t := 51) ?hr ?_; (case hr => first | (go_simp; done) | (go_simp; rfl)); intro g hg W hbox hb; have HGe := Lib.hid hg; clear hg; have HX := Lib.hid (show Blk W g 51 (msgC n (.slice A ts.length c) s) from hbox); have HB := Lib.hid hb; clear hb hbox)
    | (refine wpList_load_part _ rfl (.tmp 1) 51 rfl g 0 (msgC n (.slice A ts.length c) s) rfl aggMsg sizeMsg 51 _ HX.out ?_ ?_; (intro j v hv; rw [Nat.zero_add]; simpa using hv); unfold msgC)
    | (go_at_call 27; (with_reducible refine (HC.out _ HB.out).mono ?_); rintro e w1 ⟨rfl, hb⟩; have HB1 := Lib.hid (HB.out.trans (hb.mono HB.out.size)); clear hb)
    | fail)
  go_ret2
  exact ⟨rfl, HB1.out⟩
theorem infoByteW : (Try.prog.info? 5).map (fun i => (i.zero, i.size, i.bytes)) = some (some (.int .u8 0), 1, 1) := by kernel_rfl
theorem mod_byte {x : Int} (h0 : 0 ≤ x) (h1 : x ≤ 255) (l : List UInt8) : ints l ++ [x] = ints (l ++ [UInt8.ofNat x.toNat]) := by
  obtain ⟨m, rfl⟩ := Int.eq_ofNat_of_zero_le h0
  rw [ints_append, Int.toNat_natCast, ints_byte m (by omega)]
theorem toksL_take {ts : List Int} {k : Nat} (hk : k < ts.length) : toksL (ts.take (k + 1)) = toksL (ts.take k) ++ [UInt8.ofNat (rd ts (k : Int)).toNat] := by
  have e : rd ts (k : Int) = ts[k] := by simp [rd, List.getD_eq_getElem?_getD, List.getElem?_eq_getElem hk]
  rw [List.take_succ_eq_append_getElem hk, e]
  unfold toksL
  rw [List.map_append]
  rfl
theorem msg_text (n : Nat → Int) (ts : List Int) (s : ByteArray) : str (msgL n ts s.data.toList) = str (numsL n 10 ++ putL ts.length ++ toksL ts ++ putL s.size) ++ s := by
  have e : s.data.toList.length = s.size := by rw [Array.length_toList]; rfl
  have h := str_append (numsL n 10 ++ putL ts.length ++ toksL ts ++ putL s.size) s.data.toList
  rw [str_of] at h
  rw [h]
  unfold msgL
  rw [e]
/-- what Write's loops keep -/
structure Wrow (V W : World) (v : Value) (l : List UInt8) : Prop where
  row : KB.R 5 W V.heap.size All v (ints l)
  below : Below V.heap.size V W
set_option maxRecDepth 100000 in
set_option maxHeartbeats 4000000 in
theorem write_ok (n : Nat → Int) (A : Option Addr) (c : Nat) (ts : List Int) (s : ByteArray) (w : World) (hr : KI.C w A ts.length ts) (hc : ts.length ≤ c) (hcm : c ≤ 9223372036854775807) (hg : Good n ts s.size) :
    Calls Try.prog 13 #[.agg (msgC n (.slice A ts.length c) s)] w fun e w' => e = .returned (.tuple #[.string (str (packL (msgL n ts s.data.toList))), .nilIface]) ∧ Below w.heap.size w w' := by
  have HR := Lib.hid hr
  have HC : Hid (∀ V, Below w.heap.size w V → Calls Try.prog 27 #[.agg (msgC n (.slice A ts.length c) s)] V fun e w' => e = .returned .nilIface ∧ Below V.heap.size V w') := Lib.hid (fun V hV => (check_any n A c ts s V (Kd.C_below hr hV) hc hcm (by have := hg.sz; omega)).mono fun e w' h' => ⟨by rw [h'.1, chk_good hg]; rfl, h'.2⟩)
  have HGd := Lib.hid hg
  have hts := hg.len
  have hsz := hg.sz
  have hsl : s.data.toList.length = s.size := by rw [Array.length_toList]; rfl
  have hml := msgL_length (s := s.data.toList) (by rw [hsl]; exact hg)
  obtain ⟨M, hM⟩ : ∃ M, M = msgL n ts s.data.toList := ⟨_, rfl⟩
  rw [← hM] at hml ⊢
  have HM := Lib.hid hM
  have HSL := Lib.hid hsl
  obtain ⟨R, hR⟩ : ∃ R, R = str (packL M) := ⟨_, rfl⟩
  have HP : Hid (∀ V, Calls Try.prog 6 #[.string (str M)] V fun e w' => e = .returned (.tuple #[.string R, .nilIface]) ∧ Below V.heap.size V w') := Lib.hid (fun V => by rw [hR]; exact pack_any M V (by omega))
  rw [← hR]
  clear hr hg hM hR hsl
  have hu48 := Try.underlying51
  unfold msgC at HC ⊢
  go_enter Try.func13, Try.ntmps13
  go_wp2_with (first
    | ((with_reducible refine gate_dst (N := 1) rfl ?_); refine box_event rfl (N := 1) rfl (cs := msgC n (.slice A ts.length c) s) (t := 51) ?hr ?_; (case hr => first | (go_simp; done) | (go_simp; rfl)); intro g hg W hbox hb; have HGe := Lib.hid hg; clear hg; have HX := Lib.hid (show Blk W g 51 (msgC n (.slice A ts.length c) s) from hbox); have HB := Lib.hid hb; clear hb hbox)
    | (refine wpList_load_part _ rfl (.tmp 1) 51 rfl g 0 (msgC n (.slice A ts.length c) s) rfl aggMsg sizeMsg 51 _ HX.out ?_ ?_; (intro j v hv; rw [Nat.zero_add]; simpa using hv); unfold msgC)
    | (go_at_call 27; (with_reducible refine (HC.out _ HB.out).mono ?_); rintro e w1 ⟨rfl, hb⟩; have HX1 := Lib.hid (HX.out.out hb); have HB1 := Lib.hid (HB.out.trans (hb.mono HB.out.size)); clear hb)
    | (go_at_call 28; (with_reducible refine (numbers_any g _).mono ?_); rintro e w2 ⟨rfl, hp, hb⟩; have HP2 := Lib.hid hp; have HX2 := Lib.hid (HX1.out.out hb); have HB2 := Lib.hid (HB1.out.trans (hb.mono HB1.out.size)); clear hb hp)
    | fail)
  have HC2 := Lib.hid (Kd.C_below HR.out HB2.out)
  have HW0 : Hid (Wrow w2 w2 (.slice none 0 0) (numsL n 0)) := Lib.hid ⟨Kd.R_nil _ _ _ _ _, Below.refl _ _⟩
  clear HR HB HX HGe HB1 HX1 HC
  generalize w1.heap.size = pb at *
  go_loopw [5, 17] (fun ov kv W' => ∃ k : Nat, k ≤ 10 ∧ kv = .int .i64 (k : Int) ∧ Hid (Wrow w2 W' ov (numsL n k))) (fun _ kv _ => 10 - (intOf kv).toNat)
  case atStart => exact ⟨0, by omega, rfl, HW0⟩
  case round =>
    clear HW0
    obtain ⟨k, hk, rfl, H⟩ := hrel
    by_cases hlt : k < 10
    · have hp := (HP2.out.below H.out.2 HP2.out.lt).cell k
      rw [ptrC_at _ k hlt] at hp
      have hx := (HX2.out.below H.out.2 HX2.out.lt).cell k
      rw [msgC_at n _ _ k hlt] at hx
      have hkI : (k : Int) < 10 := by omega
      obtain ⟨m, hm⟩ := Int.eq_ofNat_of_zero_le (HGd.out.num k hlt).1
      have hmb : m ≤ 1099511627776 := by have := (HGd.out.num k hlt).2; omega
      rw [hm] at hx
      have HS : Hid (numsL n (k + 1) = numsL n k ++ putL m) := Lib.hid (by rw [numsL, hm]; rfl)
      have hnl : (numsL n k).length < 90000 := by have := numsL_length n k; omega
      have HMM := Lib.hid hm
      clear hm
      go_wp2_with (first
        | (go_at_call 29; (with_reducible refine (put_any m hmb _ hnl _ w2 _ H.out.2 H.out.1).mono ?_); rintro e w3 ⟨v3, rfl, h3, hb3⟩; rw [← HS.out] at h3; have H3 : Hid (Wrow w2 w3 v3 (numsL n (k + 1))) := Lib.hid ⟨h3, hb3⟩; clear h3 hb3)
        | fail)
      go_roundw
      case rel => exact ⟨k + 1, by omega, by go_num, H3⟩
      case measure => simp [intOf]; omega
    · obtain rfl : k = 10 := by omega
      have c10 := (HX2.out.below H.out.2 HX2.out.lt).cell 10
      have e10 : (msgC n (.slice A ts.length c) s)[10]? = some (.slice A ts.length c) := rfl
      rw [e10] at c10
      have hnl : (numsL n 10).length ≤ 70 := numsL_length n 10
      have hnl' : (numsL n 10).length < 90000 := by omega
      obtain ⟨N0, hN0⟩ : ∃ N0, N0 = numsL n 10 ++ putL ts.length := ⟨_, rfl⟩
      have HN0 := Lib.hid hN0
      have hN0l : N0.length ≤ 77 := by rw [hN0, List.length_append]; have := putL_length ts.length; omega
      clear e10 hN0
      go_wp2_with (first
        | (go_at_call 29; (with_reducible refine (put_any ts.length (by omega) _ hnl' _ w2 _ H.out.2 H.out.1).mono ?_); rintro e w3 ⟨v3, rfl, h3, hb3⟩; clear c10; rw [← HN0.out] at h3; have H3 : Hid (Wrow w2 w3 v3 (N0 ++ toksL (ts.take 0))) := Lib.hid ⟨by rw [List.take_zero, toksL, List.map_nil, List.append_nil]; exact h3, hb3⟩; have c10 := (HX2.out.below hb3 HX2.out.lt).cell 10; rw [show (msgC n (.slice A ts.length c) s)[10]? = some (.slice A ts.length c) from rfl] at c10; clear h3 hb3)
        | fail)
      go_loopw [5, 35] (fun ov kv W' => ∃ k : Nat, k ≤ ts.length ∧ kv = .int .i64 (k : Int) ∧ Hid (Wrow w2 W' ov (N0 ++ toksL (ts.take k)))) (fun _ kv _ => ts.length - (intOf kv).toNat)
      case atStart => exact ⟨0, by omega, rfl, H3⟩
      case round =>
        clear H3 H c10
        obtain ⟨k, hk, rfl, H⟩ := hrel
        by_cases hlt : k < ts.length
        · obtain ⟨ad, hA, had⟩ := KI_at (Kd.C_below HC2.out H.out.2) (by omega)
          have hx := had k hlt
          subst hA
          have hkI : (k : Int) < (ts.length : Int) := by omega
          obtain ⟨x, hxe⟩ : ∃ x, x = rd ts (k : Int) := ⟨_, rfl⟩
          have HS := Lib.hid (toksL_take hlt)
          have hxr : 0 ≤ x ∧ x ≤ 255 := by
            rw [hxe]
            have e : rd ts (k : Int) = ts[k] := by simp [rd, List.getD_eq_getElem?_getD, List.getElem?_eq_getElem hlt]
            rw [e]
            exact HGd.out.tok _ (List.getElem_mem _)
          rw [← hxe] at hx HS
          obtain ⟨hx0, hx1⟩ := hxr
          have hxm : x % 256 = x := by omega
          have HXE := Lib.hid hxe
          have HTL := Lib.hid (toksL_length (ts.take k))
          have HLT := Lib.hid (List.length_take (i := k) (l := ts))
          have HBs := Lib.hid H.out.2.size
          clear had hxe
          go_wp2_with (first
            | ((with_reducible refine gate_builtin (b := .append) (xs := #[.tmp 39, .tmp 42]) rfl ?_); at_builtin; refine Kd.R_append KB (w0 := w2) w2.heap.size rfl (.tmp 39) (.tmp 42) 45 5 (.int .u8 0) 1 rfl Try.underlying45 infoByteW rfl (by decide) (by omega) u5 (ints (N0 ++ toksL (ts.take k))) x [.int .u8 x] All (fun _ => False) rfl rfl ?aP (fun _ hk => hk.elim) (fun _ _ => trivial) H.out.1 H.out.2 HBs.out ?aL ?_; (case aP => exact rfl); (case aL => rw [ints_length, List.length_append, HTL.out, HLT.out]; omega); intro v3 w3 ho hb hg hat; rw [mod_byte hx0 hx1, List.append_assoc, ← HS.out] at ho; have H3 : Hid (Wrow w2 w3 v3 (N0 ++ toksL (ts.take (k + 1)))) := Lib.hid ⟨ho, hb⟩; clear ho hb hg hat)
            | fail)
          go_roundw
          case rel => exact ⟨k + 1, by omega, by go_num, H3⟩
          case measure => simp [intOf]; omega
        · obtain rfl : k = ts.length := by omega
          have c11 := (HX2.out.below H.out.2 HX2.out.lt).cell 11
          have e11 : (msgC n (.slice A ts.length c) s)[11]? = some (.string s) := rfl
          rw [e11] at c11
          clear e11
          obtain ⟨N1, hN1⟩ : ∃ N1, N1 = N0 ++ toksL (ts.take ts.length) := ⟨_, rfl⟩
          have hN1l : N1.length < 90000 := by rw [hN1, List.length_append, toksL_length, List.length_take]; omega
          have hN1l2 : N1.length ≤ 300 := by rw [hN1, List.length_append, toksL_length, List.length_take]; omega
          rw [← hN1] at H
          have HN1 := Lib.hid hN1
          obtain ⟨X, hX⟩ : ∃ X, X = str (N1 ++ putL s.size) := ⟨_, rfl⟩
          have hXs : X.size ≤ 310 := by rw [hX, str_size, List.length_append]; have := putL_length s.size; omega
          have HXX : Hid (str M = X ++ s) := Lib.hid (by
            rw [hX, HM.out, HN1.out, HN0.out, List.take_length]; exact msg_text n ts s)
          rw [HXX.out] at HP
          have HXe := Lib.hid hX
          clear hN1 hX
          go_wp2_with (first
            | (go_at_call 29; (with_reducible refine (put_any s.size (by omega) _ hN1l _ w2 _ H.out.2 H.out.1).mono ?_); rintro e w3 ⟨v3, rfl, h3, hb3⟩; clear c11; have hcv := KB_text h3; rw [← HXe.out] at hcv; have H3 := Lib.hid hb3; have c11 := (HX2.out.below hb3 HX2.out.lt).cell 11; rw [show (msgC n (.slice A ts.length c) s)[11]? = some (.string s) from rfl] at c11; clear h3 hb3)
            | (go_at_call 6; (with_reducible refine (HP.out _).mono ?_); rintro e w4 ⟨rfl, hb4⟩; have H4 := Lib.hid (HB2.out.trans ((H3.out.trans (hb4.mono H3.out.size)).mono HB2.out.size)); clear hb4)
            | fail)
          go_ret2
          exact ⟨rfl, H4.out⟩
end Go.Proofs.Ytjlfoiocceepjaa
namespace Go.Proofs.Ytjlfoiocceepjaa
open Go.RowKit Go.Proofs.YtjlfoiocceepjaaW.PrintWords Go.Proofs.YtjlfoiocceepjaaW.PrintLast Go.Proofs.YtjlfoiocceepjaaW.PrintMore
set_option linter.unusedVariables false
set_option linter.unusedSimpArgs false

/-- no message -/
def zeroC : Array Value := msgC (fun _ => 0) (.slice none 0 0) ⟨#[]⟩
set_option maxRecDepth 100000 in
set_option maxHeartbeats 4000000 in
theorem read_err (l : List UInt8) (why place : Int) (hw : why ≠ 0) (hl : l.length ≤ 140737488351232) (h : unpackL l = ([], why, place)) (w : World) :
    Calls Try.prog 21 #[.string (str l)] w fun e w' => e = .returned (.tuple #[.agg zeroC, .iface 91 (.agg #[.int .i64 0, .iface 77 (.agg #[.int .i64 place, .int .i64 why])])]) ∧ Below w.heap.size w w' := by
  obtain ⟨s, hs⟩ : ∃ s, s = str l := ⟨_, rfl⟩
  have HU : Hid (∀ V, Calls Try.prog 12 #[.string s] V fun e w' => e = .returned (.tuple #[.string ⟨#[]⟩, .iface 77 (.agg #[.int .i64 place, .int .i64 why])]) ∧ Below V.heap.size V w') := Lib.hid (fun V => by
    have := unpack_any l V hl
    rw [h] at this
    rw [hs]
    refine this.mono fun e w' h' => ⟨?_, h'.2⟩
    rw [h'.1]
    simp only [errV]
    rw [if_neg hw]
    rfl)
  rw [← hs]
  clear hs h hl hw
  have hu48 := Try.underlying51
  have hu69 := Try.underlying91
  go_enter Try.func21, Try.ntmps21
  go_wp2_with (first
    | ((with_reducible refine gate_dst (N := 2) rfl ?_); refine box_event rfl (N := 2) rfl (cs := zeroC) (t := 51) ?hr ?_; (case hr => first | (go_simp; done) | (go_simp; rfl)); intro g hg W hbox hb; have HGe := Lib.hid (Nat.le_of_eq hg.symm); clear hg; have HX := Lib.hid (show Blk W g 51 zeroC from hbox); have HB := Lib.hid hb; clear hb hbox)
    | (go_at_call 12; (with_reducible refine (HU.out _).mono ?_); rintro e w1 ⟨rfl, hb⟩; have HX1 := Lib.hid (HX.out.out hb); have HB1 := Lib.hid (HB.out.trans (hb.mono HB.out.size)); clear hb)
    | (refine wpList_store_part _ rfl (.tmp 2) (.tmp 21) 51 rfl g 0 zeroC rfl rfl sizeMsg rfl 51 _ HX1.out (Nat.le_refl _) zeroC rfl ?_; intro w4 hb4 hfr; have HX4 := Lib.hid hb4; have HB4 := Lib.hid (HB1.out.trans (hfr.below HGe.out)); clear hb4 hfr)
    | fail)
  exact bodyPost_ret (results_blk2 Try.results21 _ _ g zeroC rfl aggMsg sizeMsg HX4.out) rfl ⟨rfl, HB4.out⟩
/-! ### a right message -/
def upd (f : Nat → Int) (k : Nat) (x : Int) : Nat → Int := fun j => if j = k then x else f j
theorem msgC_set (f : Nat → Int) (tv : Value) (s : ByteArray) (x : Int) : ∀ k, k < 10 → (msgC f tv s).setIfInBounds k (.int .i64 x) = msgC (upd f k x) tv s
  | 0, _ => rfl | 1, _ => rfl | 2, _ => rfl | 3, _ => rfl | 4, _ => rfl | 5, _ => rfl | 6, _ => rfl | 7, _ => rfl | 8, _ => rfl | 9, _ => rfl
  | k + 10, h => by omega
theorem msgC_tok (f : Nat → Int) (tv u : Value) (s : ByteArray) : (msgC f tv s).setIfInBounds 10 u = msgC f u s := rfl
theorem msgC_txt (f : Nat → Int) (tv : Value) (s t : ByteArray) : (msgC f tv s).setIfInBounds 11 (.string t) = msgC f tv t := rfl
/-- the numbers behind k rounds -/
def nst (n : Nat → Int) : Nat → Nat → Int
  | 0 => fun _ => 0
  | k + 1 => upd (nst n k) k (n k)
theorem nst_at (n : Nat → Int) : ∀ k j, j < k → nst n k j = n j
  | 0, _, h => by omega
  | k + 1, j, h => by
    unfold nst upd
    split
    · rename_i e; rw [e]
    · exact nst_at n k j (by omega)
theorem msgC_congr {f g : Nat → Int} (tv : Value) (s : ByteArray) (h : ∀ j, j < 10 → f j = g j) : msgC f tv s = msgC g tv s := by
  unfold msgC
  rw [h 0 (by omega), h 1 (by omega), h 2 (by omega), h 3 (by omega), h 4 (by omega), h 5 (by omega), h 6 (by omega), h 7 (by omega), h 8 (by omega), h 9 (by omega)]
theorem nst_all (n : Nat → Int) (tv : Value) (s : ByteArray) : msgC (nst n 10) tv s = msgC n tv s := msgC_congr tv s (fun j hj => nst_at n 10 j hj)
/-- m numbers from number k on, and a rest -/
def restN (n : Nat → Int) (T : List UInt8) : Nat → Nat → List UInt8
  | 0, _ => T
  | m + 1, k => putL (n k).toNat ++ restN n T m (k + 1)
theorem restN_all (n : Nat → Int) (T : List UInt8) : ∀ m k, numsL n k ++ restN n T m k = numsL n (k + m) ++ T
  | 0, _ => rfl
  | m + 1, k => by
    have h := restN_all n T m (k + 1)
    rw [show k + 1 + m = k + (m + 1) by omega] at h
    rw [← h, restN, numsL, List.append_assoc]
theorem restN_length (n : Nat → Int) (T : List UInt8) : ∀ m k, (restN n T m k).length ≤ 7 * m + T.length
  | 0, _ => by simp [restN]
  | m + 1, k => by have := restN_length n T m (k + 1); have := putL_length (n k).toNat; simp only [restN, List.length_append]; omega
/-- behind the numbers -/
def tailT (ts : List Int) (s : List UInt8) : List UInt8 := toksL ts ++ (putL s.length ++ s)
theorem msgL_rest (n : Nat → Int) (ts : List Int) (s : List UInt8) : msgL n ts s = restN n (putL ts.length ++ tailT ts s) 10 0 := by
  have h := restN_all n (putL ts.length ++ tailT ts s) 10 0
  have e : numsL n 0 = [] := rfl
  rw [e, List.nil_append, Nat.zero_add] at h
  rw [h]
  unfold msgL tailT
  simp only [List.append_assoc]
/-- what Read's first loop keeps -/
structure Rd1 (w W : World) (g m p : Nat) (f : Nat → Int) : Prop where
  res : Blk W g 51 zeroC
  msg : Blk W m 51 (msgC f (.slice none 0 0) ⟨#[]⟩)
  ptr : Blk W p 85 (ptrC m)
  gm : g < m
  mp : m < p
  lo : w.heap.size ≤ g
  below : Below w.heap.size w W
theorem Rd1.out {w W W' : World} {g m p : Nat} {f : Nat → Int} (h : Rd1 w W g m p f) (hb : Below W.heap.size W W') : Rd1 w W' g m p f :=
  ⟨h.res.out hb, h.msg.out hb, h.ptr.out hb, h.gm, h.mp, h.lo, h.below.trans (hb.mono h.below.size)⟩
theorem Rd1.set {w W : World} {g m p : Nat} {f : Nat → Int} (h : Rd1 w W g m p f) (k : Nat) (hk : k < 10) (x : Int) : Rd1 w (W.setCell ⟨m, k, none⟩ (.int .i64 x)) g m p (upd f k x) := by
  have h1 := h.gm; have h2 := h.mp; have h3 := h.lo
  have hm := h.msg.set k (.int .i64 x)
  rw [msgC_set _ _ _ _ k hk] at hm
  exact ⟨h.res.far (p := ⟨m, k, none⟩) (Nat.ne_of_lt h1) _, hm, h.ptr.far (p := ⟨m, k, none⟩) (Nat.ne_of_gt h2) _, h1, h2, h3, h.below.setCell (Nat.le_trans h3 (Nat.le_of_lt h1)) _⟩
/-- what Read's second loop keeps -/
structure Rd2 (w W : World) (B g m z : Nat) (f : Nat → Int) (tv : Value) (zl : List UInt8) (l : List Int) : Prop where
  res : Blk W g 51 zeroC
  msg : Blk W m 51 (msgC f tv ⟨#[]⟩)
  row : ∀ j, j < zl.length → W.cell? ⟨z, j, none⟩ = some (.int .u8 ((zl.getD j 0).toNat : Int))
  own : KI.R 3 W B All tv l
  gm : g < m
  mB : m < B
  zB : z < B
  mz : m ≠ z
  BW : B ≤ W.heap.size
  lo : w.heap.size ≤ g
  below : Below w.heap.size w W
/-- an append to the tokens -/
theorem Rd2.app {w W W' : World} {B g m z : Nat} {f : Nat → Int} {tv u : Value} {zl : List UInt8} {l l' : List Int} (h : Rd2 w W B g m z f tv zl l) (hb : Below B W W') (ho : KI.R 3 W' B All u l') : Rd2 w (W'.setCell ⟨m, 10, none⟩ u) B g m z f u zl l' := by
  have h1 := h.gm; have h2 := h.mB; have h3 := h.zB; have h4 := h.BW; have h5 := h.lo
  have hm := (h.msg.below hb h2).set 10 u
  rw [msgC_tok] at hm
  exact ⟨(h.res.below hb (by omega)).far (p := ⟨m, 10, none⟩) (Nat.ne_of_lt h1) _, hm, fun j hj => by
    rw [World.cell?_setCell_other _ _ _ _ (fun e => h.mz (by injection e)), hb.cell (p := ⟨z, j, none⟩) h3]; exact h.row j hj, KI_set_old ho h2 _, h1, h2, h3, h.mz, Nat.le_trans h4 (by have := hb.size; simpa using this), h5, (h.below.trans (hb.mono (by omega))).setCell (by simp; omega) _⟩
/-- a text's bytes, laid -/
theorem bytes_row (x : ByteArray) (l : List UInt8) (hl : x.data.toList = l) : ∃ (mk : World → World) (cp : World → Nat), (∀ W, (convert 9 45 (.string x)).run Try.prog W = .ok (.slice (some ⟨W.heap.size, 0, none⟩) x.size (cp W)) (mk W)) ∧
    ∀ W, (∀ j, j < l.length → (mk W).cell? ⟨W.heap.size, j, none⟩ = some (.int .u8 ((l.getD j 0).toNat : Int))) ∧ Below W.heap.size W (mk W) ∧ W.heap.size < (mk W).heap.size := by
  refine ⟨fun W => W.drew.alloc (.cells (bytesRow x (grownCap W x.size 0 5)) 5 ((bytesRow x (grownCap W x.size 0 5)).size, (bytesRow x (grownCap W x.size 0 5)).size + 1)), fun W => grownCap W x.size 0 5, fun W => run_bytes_of_string W 9 45 5 x Try.underlying9 Try.underlying45 Try.underlying5, fun W => ⟨fun j hj => ?_, (Below.refl W.heap.size W).drew.alloc (Nat.le_refl _) _, by simp⟩⟩
  have hj' : j < x.data.size := by rw [← hl] at hj; simpa using hj
  have h := bytesRow_at x (grownCap W x.size 0 5) j hj'
  have hp : ((W.drew.alloc (.cells (bytesRow x (grownCap W x.size 0 5)) 5 ((bytesRow x (grownCap W x.size 0 5)).size, (bytesRow x (grownCap W x.size 0 5)).size + 1)))).heap[W.heap.size]? = some (.cells (bytesRow x (grownCap W x.size 0 5)) 5 ((bytesRow x (grownCap W x.size 0 5)).size, (bytesRow x (grownCap W x.size 0 5)).size + 1)) := by
    show (W.heap.push _)[W.heap.size]? = _
    simp
  simp only [World.cell?, hp]
  rw [h, ← hl]
  simp only [List.getD_eq_getElem?_getD, Array.getElem?_toList]
  rw [Array.getElem?_eq_getElem hj']
  rfl
set_option maxRecDepth 100000 in
set_option maxHeartbeats 8000000 in
theorem read_ok (n : Nat → Int) (ts : List Int) (s : ByteArray) (hg : Good n ts s.size) (w : World) :
    Calls Try.prog 21 #[.string (str (packL (msgL n ts s.data.toList)))] w fun e w' => ∃ (A : Option Addr) (c : Nat), e = .returned (.tuple #[.agg (msgC n (.slice A ts.length c) s), .nilIface]) ∧ KI.R 3 w' w.heap.size All (.slice A ts.length c) ts ∧ Below w.heap.size w w' := by
  have hsl : s.data.toList.length = s.size := by rw [Array.length_toList]; rfl
  have hml := msgL_length (s := s.data.toList) (by rw [hsl]; exact hg)
  obtain ⟨F, hF⟩ : ∃ F, F = str (packL (msgL n ts s.data.toList)) := ⟨_, rfl⟩
  obtain ⟨M, hM⟩ : ∃ M, M = str (msgL n ts s.data.toList) := ⟨_, rfl⟩
  have HU : Hid (∀ V, Calls Try.prog 12 #[.string F] V fun e w' => e = .returned (.tuple #[.string M, .nilIface]) ∧ Below V.heap.size V w') := Lib.hid (fun V => by
    have := unpack_any (packL (msgL n ts s.data.toList)) V (by rw [packL_length]; omega)
    rw [unpack_pack _ (by omega)] at this
    rw [hF, hM]
    exact this)
  rw [← hF]
  obtain ⟨T, hT⟩ : ∃ T, T = putL ts.length ++ tailT ts s.data.toList := ⟨_, rfl⟩
  have hTl : T.length ≤ 50200 := by
    have h1 := putL_length ts.length
    have h2 := putL_length s.data.toList.length
    have h3 := toksL_length ts
    have h4 := hg.len
    have h5 := hg.sz
    rw [hT]; unfold tailT
    simp only [List.length_append]
    omega
  have HM0 : Hid (M = str (restN n T 10 0)) := Lib.hid (by rw [hM, msgL_rest, hT])
  have HGd := Lib.hid hg
  have HSL := Lib.hid hsl
  have HT := Lib.hid hT
  have hts := hg.len
  have hsz := hg.sz
  clear hF hM hT hg hsl hml
  have hu48 := Try.underlying51
  have hu69 := Try.underlying91
  go_enter Try.func21, Try.ntmps21
  go_wp2_with (first
    | ((with_reducible refine gate_dst (N := 2) rfl ?_); refine box_event rfl (N := 2) rfl (cs := zeroC) (t := 51) ?hr ?_; (case hr => first | (go_simp; done) | (go_simp; rfl)); intro g hg W hbox hb; have HGe := Lib.hid (Nat.le_of_eq hg.symm); clear hg; have HX := Lib.hid (show Blk W g 51 zeroC from hbox); have HB := Lib.hid hb; clear hb hbox)
    | (go_at_call 12; (with_reducible refine (HU.out _).mono ?_); rintro e w1 ⟨rfl, hb⟩; have HX1 := Lib.hid (HX.out.out hb); have HB1 := Lib.hid (HB.out.trans (hb.mono HB.out.size)); clear hb)
    | ((with_reducible refine gate_dst (N := 6) rfl ?_); refine box_event rfl (N := 6) rfl (cs := zeroC) (t := 51) ?hr ?_; (case hr => first | (go_simp; done) | (go_simp; rfl)); intro m hm W2 hbox hb; have HMg := Lib.hid (show g < m by rw [hm]; exact HX1.out.lt); clear hm; have HX2 := Lib.hid (HX1.out.out hb); have HY2 := Lib.hid (show Blk W2 m 51 zeroC from hbox); have HB2 := Lib.hid (HB1.out.trans (hb.mono HB1.out.size)); clear hb hbox)
    | (go_at_call 28; (with_reducible refine (numbers_any m _).mono ?_); rintro e w3 ⟨rfl, hp, hb⟩; have H3 : Hid (Rd1 w w3 g m W2.heap.size (nst n 0)) := Lib.hid ⟨HX2.out.out hb, HY2.out.out hb, hp, HMg.out, HY2.out.lt, HGe.out, HB2.out.trans (hb.mono HB2.out.size)⟩; clear hb hp)
    | fail)
  clear HX HB HX1 HB1 HX2 HY2 HB2 HU
  generalize W2.heap.size = pb at *
  go_loopw [4, 27] (fun rv kv W' => ∃ (k : Nat) (S : ByteArray), k ≤ 10 ∧ kv = .int .i64 (k : Int) ∧ rv = .string S ∧ Hid (S = str (restN n T (10 - k) k)) ∧ Hid (Rd1 w W' g m pb (nst n k))) (fun _ kv _ => 10 - (intOf kv).toNat)
  case atStart => exact ⟨0, M, by omega, rfl, rfl, HM0, H3⟩
  case round =>
    clear H3 HM0
    obtain ⟨k, S, hk, rfl, rfl, HS, H⟩ := hrel
    by_cases hlt : k < 10
    · have hp := H.out.ptr.cell k
      rw [ptrC_at _ k hlt] at hp
      have hkI : (k : Int) < 10 := by omega
      obtain ⟨x, hx⟩ := Int.eq_ofNat_of_zero_le (HGd.out.num k hlt).1
      have hxb : x ≤ 1099511627776 := by have := (HGd.out.num k hlt).2; omega
      obtain ⟨S', hS'⟩ : ∃ S', S' = str (restN n T (10 - (k + 1)) (k + 1)) := ⟨_, rfl⟩
      have HTk : Hid (∀ V, Calls Try.prog 33 #[.string S] V fun e w' => e = .returned (.tuple #[.int .i64 x, .string S', .int .i64 0]) ∧ Below V.heap.size V w') := Lib.hid (fun V => by
        have e : restN n T (10 - k) k = putL x ++ restN n T (10 - (k + 1)) (k + 1) := by
          rw [show 10 - k = (10 - (k + 1)) + 1 by omega, restN, hx]; rfl
        rw [HS.out, hS', e]
        exact take_any x _ hxb (by have := restN_length n T (10 - (k + 1)) (k + 1); omega) V)
      have HS' := Lib.hid hS'
      have HNx : Hid (nst n (k + 1) = upd (nst n k) k (x : Int)) := Lib.hid (by rw [nst, hx])
      clear hS' hx
      go_wp2_with (first
        | (go_at_call 33; (with_reducible refine (HTk.out _).mono ?_); rintro e w4 ⟨rfl, hb⟩; clear hp; have H4 := Lib.hid (H.out.out hb); have hc4 := H4.out.msg.cell k; rw [msgC_at _ _ _ k hlt] at hc4; have hf4 := H4.out.msg.frozen k; clear hb)
        | fail)
      go_roundw
      case rel => exact ⟨k + 1, S', by omega, by go_num, rfl, HS', Lib.hid (by rw [HNx.out]; exact H4.out.set k hlt _)⟩
      case measure => simp [intOf]; omega
    · obtain rfl : k = 10 := by omega
      have hsl : s.data.toList.length = s.size := HSL.out
      obtain ⟨S1, hS1⟩ : ∃ S1, S1 = str (tailT ts s.data.toList) := ⟨_, rfl⟩
      obtain ⟨S2, hS2⟩ : ∃ S2, S2 = str (putL s.size ++ s.data.toList) := ⟨_, rfl⟩
      obtain ⟨TK, hTK⟩ : ∃ TK, TK = str (toksL ts) := ⟨_, rfl⟩
      have HT1 : Hid (∀ V, Calls Try.prog 33 #[.string S] V fun e w' => e = .returned (.tuple #[.int .i64 (ts.length : Int), .string S1, .int .i64 0]) ∧ Below V.heap.size V w') := Lib.hid (fun V => by
        have h := take_any ts.length (tailT ts s.data.toList) (by omega) (by unfold tailT; have := putL_length s.data.toList.length; simp only [List.length_append, toksL_length]; omega) V
        rw [HS.out, hS1, show restN n T (10 - 10) 10 = T from rfl, HT.out]
        exact h)
      have HT2 : Hid (∀ V, Calls Try.prog 33 #[.string S2] V fun e w' => e = .returned (.tuple #[.int .i64 (s.size : Int), .string s, .int .i64 0]) ∧ Below V.heap.size V w') := Lib.hid (fun V => by
        have h := take_any s.size s.data.toList (by omega) (by omega) V
        rw [str_of] at h
        rw [hS2]
        exact h)
      have hS1l : S1.size = ts.length + ((putL s.size).length + s.size) := by
        rw [hS1, str_size]; unfold tailT; simp only [List.length_append, toksL_length, hsl]
      have hTKs : TK.size = ts.length := by rw [hTK, str_size, toksL_length]
      have hcut : ∀ W, (Instr.slice 9 (.string S1) none (some (.int .i64 (ts.length : Int))) none).run Try.prog W = .ok (.string TK) W := fun W => by
        rw [run_slice_string_h (ht := Try.underlying9) _ _ _ .i64 _ (by omega) (by omega)]
        have e : S1.extract 0 ts.length = TK := by
          rw [hTK]
          apply str_eq
          rw [ext_list, hS1, str_list, List.drop_zero]
          unfold tailT
          rw [List.take_append_of_le_length (by rw [toksL_length]; exact Nat.le_refl _), List.take_of_length_le (by rw [toksL_length]; exact Nat.le_refl _)]
        rw [Int.toNat_natCast, e]
      have hdrop : ∀ W, (Instr.slice 9 (.string S1) (some (.int .i64 (ts.length : Int))) none none).run Try.prog W = .ok (.string S2) W := fun W => by
        rw [run_slice_string_l (ht := Try.underlying9) _ _ _ .i64 _ (by omega) (by omega)]
        have e : S1.extract ts.length S1.size = S2 := by
          rw [hS2]
          apply str_eq
          rw [ext_list, List.take_of_length_le (by rw [Array.length_toList]; exact Nat.le_refl _), hS1, str_list]
          unfold tailT
          rw [← toksL_length ts, List.drop_left, hsl]
        rw [Int.toNat_natCast, e]
      obtain ⟨mk, cp, hcv, hmk⟩ := bytes_row TK (toksL ts) (by rw [hTK, str_list])
      have HMK := Lib.hid hmk
      rw [hTKs] at hcv
      have hgt : decide (S1.size < ts.length) = false := decide_eq_false (by omega)
      have HS1l := Lib.hid hS1l
      clear hS1 hS2 hTK hsl hTKs hmk hS1l
      go_wp2_with (first
        | (go_at_call 33; (with_reducible refine (HT1.out _).mono ?_); rintro e w4 ⟨rfl, hb⟩; have H4 := Lib.hid (H.out.out hb); clear hb)
        | fail)
      have H5 : Hid (∃ z, z = w4.heap.size ∧ Rd2 w (mk w4) (mk w4).heap.size g m z (nst n 10) (.slice none 0 0) (toksL ts) (ts.take 0)) := Lib.hid ⟨_, rfl,
        H4.out.res.out (HMK.out w4).2.1, H4.out.msg.out (HMK.out w4).2.1, (HMK.out w4).1, by rw [List.take_zero]; exact Kd.R_nil _ _ _ _ _, H4.out.gm, Nat.lt_of_lt_of_le H4.out.msg.lt (HMK.out w4).2.1.size, (HMK.out w4).2.2, Nat.ne_of_lt H4.out.msg.lt, Nat.le_refl _, H4.out.lo, H4.out.below.trans ((HMK.out w4).2.1.mono H4.out.below.size)⟩
      obtain ⟨z, hz, H5'⟩ := H5.out
      have H6 := Lib.hid H5'
      clear H5 H5' HMK hcv hcut H4 H HS HT1
      rw [← hz]
      clear hz
      generalize mk w4 = w5 at *
      generalize cp w4 = q at *
      generalize w5.heap.size = B at *
      go_loopw [76] (fun kv W' => ∃ (k : Nat) (A : Option Addr) (c : Nat), k ≤ ts.length ∧ kv = .int .i64 (k : Int) ∧ Hid (Rd2 w W' B g m z (nst n 10) (.slice A k c) (toksL ts) (ts.take k))) (fun kv _ => ts.length - (intOf kv).toNat)
      case atStart => exact ⟨0, none, 0, by omega, rfl, H6⟩
      case round =>
        clear H6
        obtain ⟨k, A, c, hk, rfl, H⟩ := hrel
        by_cases hlt : k < ts.length
        · have hrow := H.out.row k (by rw [toksL_length]; exact hlt)
          have c10 := H.out.msg.cell 10
          rw [show (msgC (nst n 10) (.slice A k c) ⟨#[]⟩)[10]? = some (.slice A k c) from rfl] at c10
          have hkI : (k : Int) < (ts.length : Int) := by omega
          obtain ⟨x, hx⟩ : ∃ x, x = rd ts (k : Int) := ⟨_, rfl⟩
          have e : rd ts (k : Int) = ts[k] := by simp [rd, List.getD_eq_getElem?_getD, List.getElem?_eq_getElem hlt]
          have hxr := HGd.out.tok ts[k] (List.getElem_mem _)
          have hb8 : (((toksL ts).getD k 0).toNat : Int) = x := by
            rw [hx, e]
            unfold toksL
            simp only [List.getD_eq_getElem?_getD, List.getElem?_map, List.getElem?_eq_getElem hlt, Option.map_some, Option.getD_some]
            rw [UInt8.toNat_ofNat']
            omega
          rw [hb8] at hrow
          have hx0 : 0 ≤ x := by rw [hx, e]; exact hxr.1
          have hx1 : x ≤ 255 := by rw [hx, e]; exact hxr.2
          have HTk : Hid (ts.take (k + 1) = ts.take k ++ [x]) := Lib.hid (by rw [List.take_succ_eq_append_getElem hlt, hx, e])
          have HLT : Hid ((ts.take k).length = k) := Lib.hid (by rw [List.length_take]; omega)
          have HTl : Hid ((ts.take (k + 1)).length = k + 1) := Lib.hid (by rw [List.length_take]; omega)
          clear hb8 hx e hxr
          go_wp2_with (first
            | ((with_reducible refine gate_builtin (b := .append) (xs := #[.tmp 81, .tmp 84]) rfl ?_); at_builtin; refine Kd.R_append KI (w0 := wr) B rfl (.tmp 81) (.tmp 84) 24 3 (.int .i64 0) 8 rfl Try.underlying24 infoInt rfl (by decide) (by omega) (.slice A k c) (ts.take k) x [.int .i64 x] All (fun _ => False) rfl rfl ?aP (fun _ hk => hk.elim) (fun _ _ => trivial) H.out.own (Below.refl _ _) H.out.BW ?aL ?_; (case aP => exact rfl); (case aL => rw [HLT.out]; omega); intro v3 w6 ho hb hg hat; rw [← HTk.out] at ho; obtain ⟨A1, c1, rfl⟩ := Kd.R_slice ho; rw [HTl.out] at ho ⊢; clear c10 hrow; have hc6 := (H.out.msg.below hb H.out.mB).cell 10; rw [show (msgC (nst n 10) (.slice A k c) ⟨#[]⟩)[10]? = some (.slice A k c) from rfl] at hc6; have hf6 := (H.out.msg.below hb H.out.mB).frozen 10; have H7 := Lib.hid (H.out.app hb ho); clear ho hb hg hat)
            | fail)
          go_roundw
          case rel => exact ⟨k + 1, A1, c1, by omega, by go_num, H7⟩
          case measure => simp [intOf]; omega
        · obtain rfl : k = ts.length := by omega
          have hown := H.out.own
          rw [List.take_length] at hown
          have HO := Lib.hid hown
          have HCk : Hid (∀ V, KI.C V A ts.length ts → Calls Try.prog 27 #[.agg (msgC n (.slice A ts.length c) s)] V fun e w' => e = .returned .nilIface ∧ Below V.heap.size V w') := Lib.hid (fun V hV => (check_any n A c ts s V hV (KI_C hown).2.1 (KI_cap hown) (by omega)).mono fun e w' h' => ⟨by rw [h'.1, chk_good HGd.out]; rfl, h'.2⟩)
          have hss : decide (s.size < s.size) = false := decide_eq_false (by omega)
          clear hown
          go_wp2_with (first
            | (go_at_call 33; (with_reducible refine (HT2.out _).mono ?_); rintro e w7 ⟨rfl, hb⟩; have hm7 := H.out.msg.out hb; have hc7 := hm7.cell 11; rw [show (msgC (nst n 10) (.slice A ts.length c) ⟨#[]⟩)[11]? = some (.string ⟨#[]⟩) from rfl] at hc7; have hf7 := hm7.frozen 11; have hm8 := hm7.set 11 (.string s); rw [msgC_txt, nst_all] at hm8; have HM8 := Lib.hid hm8; have HO8 := Lib.hid (KI_set_old (KI_out HO.out hb) (p := ⟨m, 11, none⟩) H.out.mB (.string s)); have HG8 := Lib.hid ((H.out.res.out hb).far (p := ⟨m, 11, none⟩) (Nat.ne_of_lt H.out.gm) (.string s)); have HB8 := Lib.hid ((H.out.below.trans (hb.mono H.out.below.size)).setCell (p := ⟨m, 11, none⟩) (Nat.le_trans H.out.lo (Nat.le_of_lt H.out.gm)) (.string s)); clear hb hm7 hm8)
            | ((with_reducible refine gate_dst (N := 121) rfl ?_); refine wpList_load_part _ rfl (.tmp 6) 51 rfl m 0 (msgC n (.slice A ts.length c) s) rfl aggMsg sizeMsg 51 _ HM8.out ?_ ?_; (intro j v hv; rw [Nat.zero_add]; simpa using hv))
            | (go_at_call 27; (with_reducible refine (HCk.out _ (KI_C HO8.out).2.2).mono ?_); rintro e w9 ⟨rfl, hb⟩; have HM9 := Lib.hid (HM8.out.out hb); have HG9 := Lib.hid (HG8.out.out hb); have HO9 := Lib.hid (KI_out HO8.out hb); have HB9 := Lib.hid (HB8.out.trans (hb.mono HB8.out.size)); clear hb hc7 hf7)
            | ((with_reducible refine gate_dst (N := 127) rfl ?_); refine wpList_load_part _ rfl (.tmp 6) 51 rfl m 0 (msgC n (.slice A ts.length c) s) rfl aggMsg sizeMsg 51 _ HM9.out ?_ ?_; (intro j v hv; rw [Nat.zero_add]; simpa using hv))
            | (refine wpList_store_part _ rfl (.tmp 2) (.tmp 127) 51 rfl g 0 (msgC n (.slice A ts.length c) s) rfl rfl sizeMsg rfl 51 _ HG9.out (Nat.le_refl _) (msgC n (.slice A ts.length c) s) rfl ?_; intro w10 hb10 hfr; have HX10 := Lib.hid hb10; have HO10 := Lib.hid (KI_far_all HO9.out hfr (Nat.lt_trans H.out.gm H.out.mB)); have HB10 := Lib.hid (HB9.out.trans (hfr.below H.out.lo)); clear hb10 hfr)
            | fail)
          exact bodyPost_ret (results_blk2 Try.results21 _ _ g (msgC n (.slice A ts.length c) s) rfl aggMsg sizeMsg HX10.out) rfl ⟨A, c, rfl, Kd.R_lower HO10.out (by have h1 := H.out.lo; have h2 := H.out.gm; have h3 := H.out.mB; omega), HB10.out⟩
end Go.Proofs.Ytjlfoiocceepjaa
