/-
  WireNumbers, walked.
-/
import Derived.Test.YtjlfoiocceepjaaDoorAwk5
import Derived.Test.YtjlfoiocceepjaaDoorSame
namespace Go.Proofs.YtjlfoiocceepjaaDoor
open Go.RowKit Go.Proofs.YtjlfoiocceepjaaDoorW.PrintWords Go.Proofs.YtjlfoiocceepjaaDoorW.PrintLast Go.Proofs.YtjlfoiocceepjaaDoorW.PrintMore
set_option linter.unusedVariables false
set_option linter.unusedSimpArgs false

/-- the message's numbers behind k of those that came -/
def wn (l : List Int) (k : Nat) : Nat → Int := fun j => if j = 0 then 2 else if j ≤ k then rd l ((j - 1 : Nat) : Int) else 0
theorem wn_upd (l : List Int) (k : Nat) : upd (wn l k) (k + 1) (rd l (k : Int)) = wn l (k + 1) := by
  funext j
  unfold upd wn
  by_cases h : j = k + 1
  · subst h; simp
  · rw [if_neg h]
    by_cases h0 : j = 0
    · rw [if_pos h0, if_pos h0]
    · rw [if_neg h0, if_neg h0]
      by_cases h1 : j ≤ k
      · rw [if_pos h1, if_pos (by omega)]
      · rw [if_neg h1, if_neg (by omega)]
theorem wn_good (l : List Int) (k : Nat) (h : ∀ j : Nat, j < k → 0 ≤ rd l (j : Int) ∧ rd l (j : Int) ≤ 1099511627776) : Good (wn l k) [] 0 := by
  refine ⟨by unfold wn; simp, by unfold wn; simp, fun j hj => ?_, by simp, (fun t ht => by cases ht), by omega⟩
  unfold wn
  by_cases h0 : j = 0
  · rw [if_pos h0]; omega
  · rw [if_neg h0]
    by_cases h1 : j ≤ k
    · rw [if_pos h1]; exact h (j - 1) (by omega)
    · rw [if_neg h1]; omega
def ptr9 (g : Nat) : Array Value := #[.pointer (some ⟨g, 1, none⟩), .pointer (some ⟨g, 2, none⟩), .pointer (some ⟨g, 3, none⟩), .pointer (some ⟨g, 4, none⟩), .pointer (some ⟨g, 5, none⟩), .pointer (some ⟨g, 6, none⟩), .pointer (some ⟨g, 7, none⟩), .pointer (some ⟨g, 8, none⟩), .pointer (some ⟨g, 9, none⟩)]
theorem ptr9_at (p : Nat) : ∀ k, k < 9 → (ptr9 p)[k]? = some (.pointer (some ⟨p, k + 1, none⟩))
  | 0, _ => rfl | 1, _ => rfl | 2, _ => rfl | 3, _ => rfl | 4, _ => rfl | 5, _ => rfl | 6, _ => rfl | 7, _ => rfl | 8, _ => rfl
  | k + 9, h => by omega
/-- what the loop keeps -/
structure Wn (w W : World) (g p : Nat) (f : Nat → Int) : Prop where
  m : Blk W g 48 (msgC f (.slice none 0 0) ⟨#[]⟩)
  pp : Blk W p 57 (ptr9 g)
  gp : g < p
  lo : w.heap.size ≤ g
  gl : Gl W
  below : Below w.heap.size w W
theorem Wn.set {w W : World} {g p : Nat} {f : Nat → Int} (h : Wn w W g p f) (hg : 0 < w.heap.size) (k : Nat) (hk : k < 10) (x : Int) : Wn w (W.setCell ⟨g, k, none⟩ (.int .i64 x)) g p (upd f k x) := by
  have h1 := h.gp; have h2 := h.lo
  have hm := h.m.set k (.int .i64 x)
  rw [msgC_set _ _ _ _ k hk] at hm
  exact ⟨hm, h.pp.far (p := ⟨g, k, none⟩) (Nat.ne_of_gt h1) _, h1, h2, h.gl.below ((Below.refl w.heap.size W).setCell (p := ⟨g, k, none⟩) h2 _) hg, h.below.setCell (p := ⟨g, k, none⟩) h2 _⟩
/-- what is compared in the end -/
structure W8 (w W : World) (g g9 : Nat) (A1 : Option Addr) (c1 : Nat) (f : Nat → Int) : Prop where
  x : Blk W g9 48 (msgC f (.slice A1 0 c1) ⟨#[]⟩)
  m : Blk W g 48 (msgC f (.slice none 0 0) ⟨#[]⟩)
  cx : KI.C W A1 0 []
  cap : c1 ≤ 9223372036854775807
  gl : Gl W
  below : Below w.heap.size w W
theorem W8.out {w W W' : World} {g g9 : Nat} {A1 : Option Addr} {c1 : Nat} {f : Nat → Int} (h : W8 w W g g9 A1 c1 f) (hb : Below W.heap.size W W') : W8 w W' g g9 A1 c1 f :=
  ⟨h.x.out hb, h.m.out hb, Kd.C_below h.cx hb, h.cap, h.gl.out hb, h.below.trans (hb.mono h.below.size)⟩
theorem C_zero (w : World) (A : Option Addr) : KI.C w A 0 [] := Kd.C_of_reads (d := (0 : Int)) (h1 := fun _ => rfl) ⟨rfl, by omega, fun h => by omega⟩
theorem allEq_same (f : Nat → Int) : ∀ m i, allEq f f m i = true
  | 0, _ => rfl
  | m + 1, i => by rw [allEq, allEq_same f m (i + 1)]; simp
theorem sameB_same (f : Nat → Int) (ts : List Int) (s : ByteArray) : sameB f f ts ts s s = true := by
  unfold sameB; rw [allEq_same]; simp
theorem empty_write (f : Nat → Int) (h : Good f [] 0) (V : World) : Calls Tryd.prog 29 #[.agg (msgC f (.slice none 0 0) ⟨#[]⟩)] V fun e w' => e = .returned (.tuple #[.string (str (packL (msgL f [] []))), .nilIface]) ∧ Below V.heap.size V w' :=
  write_ok f none 0 [] ⟨#[]⟩ V (Kd.C_nil _ _) (Nat.le_refl _) (by omega) h
theorem empty_read (f : Nat → Int) (h : Good f [] 0) (V : World) : Calls Tryd.prog 33 #[.string (str (packL (msgL f [] [])))] V fun e w' => ∃ (A : Option Addr) (c : Nat), e = .returned (.tuple #[.agg (msgC f (.slice A 0 c) ⟨#[]⟩), .nilIface]) ∧ KI.R 3 w' V.heap.size All (.slice A 0 c) [] ∧ Below V.heap.size V w' :=
  read_ok f [] ⟨#[]⟩ h V
theorem empty_told (f : Nat → Int) (V : World) (A : Option Addr) (c : Nat) (hr : KI.C V A 0 []) (hc : c ≤ 9223372036854775807) : Calls Tryd.prog 32 #[.agg (msgC f (.slice A 0 c) ⟨#[]⟩)] V fun e w' => ∃ (A' : Option Addr) (c' : Nat), e = .returned (.agg (msgC f (.slice A' 0 c') ⟨#[]⟩)) ∧ KI.R 3 w' V.heap.size All (.slice A' 0 c') [] ∧ Below V.heap.size V w' :=
  told_any f A c [] ⟨#[]⟩ V hr (Nat.zero_le _) hc
theorem empty_same (f : Nat → Int) (V : World) (A B : Option Addr) (c d : Nat) (hr : KI.C V A 0 []) (hu : KI.C V B 0 []) (hc : c ≤ 9223372036854775807) (hd : d ≤ 9223372036854775807) : Calls Tryd.prog 31 #[.agg (msgC f (.slice A 0 c) ⟨#[]⟩), .agg (msgC f (.slice B 0 d) ⟨#[]⟩)] V fun e w' => e = .returned (.bool true) ∧ Below V.heap.size V w' := by
  have h := same_any f f A B c d [] [] ⟨#[]⟩ ⟨#[]⟩ V hr hu (Nat.zero_le _) (Nat.zero_le _) hc hd
  rw [sameB_same] at h
  exact h
set_option maxRecDepth 100000 in
set_option maxHeartbeats 8000000 in
theorem nums_end (f : Nat → Int) (hf : Good f [] 0) : True := trivial
set_option maxRecDepth 100000 in
set_option maxHeartbeats 8000000 in
theorem nums_any (A : Option Addr) (c : Nat) (l : List Int) (w : World) (hr : KI.C w A l.length l) (hc : l.length ≤ c) (hcm : c ≤ 9223372036854775807) (hg : Gl w) :
    Calls Tryd.prog 10 #[.slice A l.length c] w fun e w' => e = .returned (.bool true) ∧ Below w.heap.size w w' := by
  have HR := Lib.hid hr
  have HG := Lib.hid hg
  have HBe := Lib.hid (Below.refl w.heap.size w)
  have hu48 := Tryd.underlying48
  clear hr hg
  go_enter Tryd.func10, Tryd.ntmps10
  go_wp2_with (first
    | ((with_reducible refine gate_dst (N := 3) rfl ?_); refine box_event rfl (N := 3) rfl (cs := zeroC) (t := 48) ?hr ?_; (case hr => first | (go_simp; done) | (go_simp; rfl)); intro g hgg W1 hbox hb; have HLo := Lib.hid (Nat.le_of_eq hgg.symm); clear hgg; have HX := Lib.hid (show Blk W1 g 48 zeroC from hbox); have HB := Lib.hid (HBe.out.trans (hb.mono HBe.out.size)); have HG1 := Lib.hid (HG.out.out hb); clear hb hbox)
    | (refine wpList_store_part _ rfl (.tmp 3) (.tmp 11) 48 rfl g 0 (msgC (wn l 0) (.slice none 0 0) ⟨#[]⟩) rfl rfl sizeMsg rfl 48 _ HX.out (Nat.le_refl _) (msgC (wn l 0) (.slice none 0 0) ⟨#[]⟩) rfl ?_; intro W2 hb4 hfr; have HX2 := Lib.hid hb4; have HB2 := Lib.hid (HB.out.trans (hfr.below HLo.out)); have HG2 := Lib.hid (HG1.out.below (hfr.below (Nat.le_refl _)) (Nat.lt_of_lt_of_le HG.out.pos HLo.out)); clear hb4 hfr)
    | fail)
  have HW0 : Hid (Wn w (W2.alloc (.cells (ptr9 g) 57)) g W2.heap.size (wn l 0)) := Lib.hid ⟨HX2.out.alloc _, Blk.new _ _ _ _ rfl, HX2.out.lt, HLo.out, HG2.out.alloc _, HB2.out.alloc HB2.out.size _⟩
  unfold ptr9 at HW0
  have HPos := Lib.hid HG.out.pos
  clear HX HB HG1 HX2 HB2 HG2 HLo HBe
  generalize hw5 : W2.alloc (.cells #[.pointer (some ⟨g, 1, none⟩), .pointer (some ⟨g, 2, none⟩), .pointer (some ⟨g, 3, none⟩), .pointer (some ⟨g, 4, none⟩), .pointer (some ⟨g, 5, none⟩), .pointer (some ⟨g, 6, none⟩), .pointer (some ⟨g, 7, none⟩), .pointer (some ⟨g, 8, none⟩), .pointer (some ⟨g, 9, none⟩)] 57) = w5 at *
  clear hw5
  generalize W2.heap.size = p at *
  go_loopw [5] (fun kv W' => ∃ k : Nat, k ≤ 9 ∧ k ≤ l.length ∧ kv = .int .i64 (k : Int) ∧ Hid (Wn w W' g p (wn l k)) ∧ Hid (∀ j : Nat, j < k → 0 ≤ rd l (j : Int) ∧ rd l (j : Int) ≤ 1099511627776)) (fun kv _ => 9 - (intOf kv).toNat)
  case atStart => exact ⟨0, by omega, by omega, rfl, HW0, Lib.hid (fun j hj => by omega)⟩
  case round =>
    clear HW0
    obtain ⟨k, hk9, hkl, rfl, H, HP⟩ := hrel
    by_cases hlt : k < l.length ∧ k < 9
    · obtain ⟨hl, h9⟩ := hlt
      obtain ⟨ad, hA, had⟩ := KI_at (Kd.C_below HR.out H.out.below) (by omega)
      have hx := had k hl
      subst hA
      have hkI : (k : Int) < (l.length : Int) := by omega
      have hkI9 : (k : Int) < 9 := by omega
      obtain ⟨x, hxe⟩ : ∃ x, x = rd l (k : Int) := ⟨_, rfl⟩
      rw [← hxe] at hx
      have hp := H.out.pp.cell k
      rw [ptr9_at _ k h9] at hp
      have hm := H.out.m.cell (k + 1)
      rw [msgC_at _ _ _ (k + 1) (by omega)] at hm
      have hf := H.out.m.frozen (k + 1)
      have HXE := Lib.hid hxe
      clear had hxe
      by_cases hbad : x < 0 ∨ 1099511627776 < x
      · rcases (show x < 0 ∨ (¬ x < 0 ∧ 1099511627776 < x) by omega) with hz | ⟨hz, hz'⟩
        all_goals
          clear hbad
          go_wp2_with (first
            | (go_at_call 30; (with_reducible refine (awake5_any _ H.out.gl).mono ?_); rintro e wa ⟨rfl, hb⟩; have HZ := Lib.hid (H.out.below.trans (hb.mono H.out.below.size)); clear hb)
            | fail)
          go_ret
          exact ⟨rfl, HZ.out⟩
      · have hz : ¬ x < 0 := by omega
        have hz' : ¬ 1099511627776 < x := by omega
        clear hbad
        go_wp2_with fail
        go_roundw
        case rel => exact ⟨k + 1, by omega, by omega, by go_num, Lib.hid (by rw [← wn_upd, ← HXE.out]; exact H.out.set HPos.out (k + 1) (by omega) x), Lib.hid (fun j hj => by
          by_cases e : j = k
          · rw [e, ← HXE.out]; omega
          · exact HP.out j (by omega))⟩
        case measure => simp [intOf]; omega
    · obtain ⟨f, hf⟩ : ∃ f, f = wn l k := ⟨_, rfl⟩
      have hgd : Good f [] 0 := by rw [hf]; exact wn_good l k HP.out
      rw [← hf] at H
      obtain ⟨S, hS⟩ : ∃ S, S = str (packL (msgL f [] [])) := ⟨_, rfl⟩
      have HW := Lib.hid (empty_write f hgd)
      have HRd := Lib.hid (empty_read f hgd)
      rw [← hS] at HW HRd
      have HT := Lib.hid (empty_told f)
      have HSm := Lib.hid (empty_same f)
      clear hf hgd hS HP
      rcases (show ¬ k < l.length ∨ (k < l.length ∧ ¬ k < 9) by omega) with hl | ⟨hl, h9⟩
      all_goals
        clear hlt
        go_wp2_with (first
          | (refine wpList_load_part _ rfl (.tmp 3) 48 rfl g 0 (msgC f (.slice none 0 0) ⟨#[]⟩) rfl aggMsg sizeMsg 48 _ H.out.m ?_ ?_; (intro j v hv; rw [Nat.zero_add]; simpa using hv))
          | (go_at_call 29; (with_reducible refine (HW.out _).mono ?_); rintro e w6 ⟨rfl, hb⟩; have HM6 := Lib.hid (H.out.m.out hb); have HG6 := Lib.hid (H.out.gl.out hb); have HB6 := Lib.hid (H.out.below.trans (hb.mono H.out.below.size)); clear hb)
          | (go_at_call 33; (with_reducible refine (HRd.out _).mono ?_); rintro e w7 ⟨A1, c1, rfl, ho, hb⟩; have HO7 := Lib.hid ho; have HM7 := Lib.hid (HM6.out.out hb); have HG7 := Lib.hid (HG6.out.out hb); have HB7 := Lib.hid (HB6.out.trans (hb.mono HB6.out.size)); clear hb ho)
          | ((with_reducible refine gate_dst (N := 9) rfl ?_); refine box_event rfl (N := 9) rfl (cs := zeroC) (t := 48) ?hr ?_; (case hr => first | (go_simp; done) | (go_simp; rfl)); intro g9 hgg Wa hbox hb; have HN9 := Lib.hid (show g < g9 by rw [hgg]; exact HM7.out.lt); have HL9 := Lib.hid (show w.heap.size ≤ g9 by rw [hgg]; exact HB7.out.size); have hw7 : w7.heap.size ≤ g9 := Nat.le_of_eq hgg.symm; clear hgg; have HX9 := Lib.hid (show Blk Wa g9 48 zeroC from hbox); have HOa := Lib.hid (Kd.C_below (KI_C HO7.out).2.2 hb); have HLa := Lib.hid (Nat.le_trans (Nat.le_refl _) hw7); have HMa := Lib.hid (HM7.out.out hb); have HGa := Lib.hid (HG7.out.out hb); have HBa := Lib.hid (HB7.out.trans (hb.mono HB7.out.size)); have HRa := Lib.hid (KI_out HO7.out hb); clear hb hbox hw7)
          | (refine wpList_store_part _ rfl (.tmp 9) (.tmp 59) 48 rfl g9 0 (msgC f (.slice A1 0 c1) ⟨#[]⟩) rfl rfl sizeMsg rfl 48 _ HX9.out (Nat.le_refl _) (msgC f (.slice A1 0 c1) ⟨#[]⟩) rfl ?_; intro Wb hb4 hfr; have H8 : Hid (W8 w Wb g g9 A1 c1 f) := Lib.hid ⟨hb4, HMa.out.away hfr (Nat.ne_of_lt HN9.out), C_zero _ _, KI_cap HRa.out, HGa.out.below (hfr.below (Nat.le_refl _)) (Nat.lt_of_lt_of_le HPos.out HL9.out), HBa.out.trans (hfr.below HL9.out)⟩; clear hb4 hfr)
          | fail)
        replace H8 : Hid (W8 w Wb.drew g g9 A1 c1 f) := Lib.hid (H8.out.out (Below.refl _ _).drew)
        refine start_ (n := 17) (S := fun W' => Blk W' g9 48 (msgC f (.slice A1 0 c1) ⟨#[]⟩) ∧ Blk W' g 48 (msgC f (.slice none 0 0) ⟨#[]⟩)) (ds := []) #[false, false, false, false, false, false, false, false, false, false, false, false, false, false, false, false, false] (by kernel_rfl) rfl rfl (⟨H8.out.x, H8.out.m⟩) (fun hHeld => ?_)
        refine one_ (i := 0) (N := some 61) (oi := ⟨some 61, Go.Op.call ⟨Go.Callee.value (Go.Operand.func 30), #[], #[]⟩, 4, "outright.go:32", #[], none⟩) #[true, false, false, false, false, false, false, false, false, false, false, false, false, false, false, false, false] rfl rfl (by kernel_rfl) (by decide) (fun K hK => ?_)
        rw [if_pos (by rfl)]
        go_simp
        (go_at_call 30; (with_reducible refine (awake5_any _ H8.out.gl).mono ?_); rintro e wa ⟨rfl, hb⟩; have K8 := Lib.hid (H8.out.out hb); clear H8; have H8 := K8; clear K8; clear hb)
        refine hK.out _ _ (⟨H8.out.x, H8.out.m⟩) (fun hHeld => ?_)
        clear hK K
        try simp only [Act.put, List.setIfInBounds_toArray, List.set_cons_zero, List.set_cons_succ]
        refine pure_ (i := 1) (N := some 62) (v := ?_) (a' := ?_) #[true, true, false, false, false, false, false, false, false, false, false, false, false, false, false, false, false] rfl rfl (by kernel_rfl) (fun _ _ _ h => h) (Or.inl ⟨by rfl, ?_⟩) ?_ ?_
        rotate_left
        · intro w'
          go_simp
          (try with_reducible rfl)
        rotate_left
        · simp only [Act.put, List.setIfInBounds_toArray, List.set_cons_zero, List.set_cons_succ]
          rfl
        refine pure_ (i := 2) (N := some 63) (v := ?_) (a' := ?_) #[true, true, true, false, false, false, false, false, false, false, false, false, false, false, false, false, false] rfl rfl (by kernel_rfl) (fun _ _ _ h => h) (Or.inl ⟨by rfl, ?_⟩) ?_ ?_
        rotate_left
        · intro w'
          go_simp
          (try with_reducible rfl)
        rotate_left
        · simp only [Act.put, List.setIfInBounds_toArray, List.set_cons_zero, List.set_cons_succ]
          rfl
        refine pure_ (i := 3) (N := some 64) (v := ?_) (a' := ?_) #[true, true, true, true, false, false, false, false, false, false, false, false, false, false, false, false, false] rfl rfl (by kernel_rfl) (fun _ _ _ h => h) (Or.inl ⟨by rfl, ?_⟩) ?_ ?_
        rotate_left
        · intro w'
          go_simp
          (try with_reducible rfl)
        rotate_left
        · simp only [Act.put, List.setIfInBounds_toArray, List.set_cons_zero, List.set_cons_succ]
          rfl
        refine pure_ (i := 4) (N := some 65) (v := ?_) (a' := ?_) #[true, true, true, true, true, false, false, false, false, false, false, false, false, false, false, false, false] rfl rfl (by kernel_rfl) (fun _ _ _ h => h) (Or.inl ⟨by rfl, ?_⟩) ?_ ?_
        rotate_left
        · intro w'
          go_simp
          (try with_reducible rfl)
        rotate_left
        · simp only [Act.put, List.setIfInBounds_toArray, List.set_cons_zero, List.set_cons_succ]
          rfl
        refine pure_ (i := 5) (N := some 66) (v := ?_) (a' := ?_) #[true, true, true, true, true, true, false, false, false, false, false, false, false, false, false, false, false] rfl rfl (by kernel_rfl) (fun _ _ _ h => h) (Or.inl ⟨by rfl, ?_⟩) ?_ ?_
        rotate_left
        · intro w'
          go_simp
          (try with_reducible rfl)
        rotate_left
        · simp only [Act.put, List.setIfInBounds_toArray, List.set_cons_zero, List.set_cons_succ]
          rfl
        refine pure_ (i := 6) (N := some 67) (v := ?_) (a' := ?_) #[true, true, true, true, true, true, true, false, false, false, false, false, false, false, false, false, false] rfl rfl (by kernel_rfl) (fun _ _ _ h => h) (Or.inl ⟨by rfl, ?_⟩) ?_ ?_
        rotate_left
        · intro w'
          go_simp
          (try with_reducible rfl)
        rotate_left
        · simp only [Act.put, List.setIfInBounds_toArray, List.set_cons_zero, List.set_cons_succ]
          rfl
        refine pure_ (i := 7) (N := some 68) (v := ?_) (a' := ?_) #[true, true, true, true, true, true, true, true, false, false, false, false, false, false, false, false, false] rfl rfl (by kernel_rfl) (fun _ _ _ h => h) (Or.inl ⟨by rfl, ?_⟩) ?_ ?_
        rotate_left
        · intro w'
          go_simp
          (try with_reducible rfl)
        rotate_left
        · simp only [Act.put, List.setIfInBounds_toArray, List.set_cons_zero, List.set_cons_succ]
          rfl
        refine pure_ (i := 8) (N := some 69) (v := ?_) (a' := ?_) #[true, true, true, true, true, true, true, true, true, false, false, false, false, false, false, false, false] rfl rfl (by kernel_rfl) (fun _ _ _ h => h) (Or.inl ⟨by rfl, ?_⟩) ?_ ?_
        rotate_left
        · intro w'
          go_simp
          (try with_reducible rfl)
        rotate_left
        · simp only [Act.put, List.setIfInBounds_toArray, List.set_cons_zero, List.set_cons_succ]
          rfl
        refine pure_ (i := 9) (N := some 70) (v := ?_) (a' := ?_) #[true, true, true, true, true, true, true, true, true, true, false, false, false, false, false, false, false] rfl rfl (by kernel_rfl) (fun _ _ _ h => h) (Or.inl ⟨by rfl, ?_⟩) ?_ ?_
        rotate_left
        · intro w'
          go_simp
          (try with_reducible rfl)
        rotate_left
        · simp only [Act.put, List.setIfInBounds_toArray, List.set_cons_zero, List.set_cons_succ]
          rfl
        refine take_ (i := 10) (N := some 71) (v := ?_) (a' := ?_) #[true, true, true, true, true, true, true, true, true, true, true, false, false, false, false, false, false] rfl rfl (by kernel_rfl) (fun _ _ _ h => h) (Or.inl ⟨by rfl, ?_⟩) hHeld ?_ ?_
        rotate_left
        · intro w' s0
          refine exec_load_part _ (.tmp 9) 48 ?_ g9 0 (msgC f (.slice A1 0 c1) ⟨#[]⟩) ?_ aggMsg sizeMsg 48 _ s0.1 ?_
          · rfl
          · rfl
          · intro j v hv
            rw [Nat.zero_add]
            simpa using hv
        rotate_left
        · simp only [Act.put, List.setIfInBounds_toArray, List.set_cons_zero, List.set_cons_succ]
          rfl
        refine take_ (i := 12) (N := some 73) (v := ?_) (a' := ?_) #[true, true, true, true, true, true, true, true, true, true, true, false, true, false, false, false, false] rfl rfl (by kernel_rfl) (fun _ _ _ h => h) (Or.inl ⟨by rfl, ?_⟩) hHeld ?_ ?_
        rotate_left
        · intro w' s0
          refine exec_load_part _ (.tmp 3) 48 ?_ g 0 (msgC f (.slice none 0 0) ⟨#[]⟩) ?_ aggMsg sizeMsg 48 _ s0.2 ?_
          · rfl
          · rfl
          · intro j v hv
            rw [Nat.zero_add]
            simpa using hv
        rotate_left
        · simp only [Act.put, List.setIfInBounds_toArray, List.set_cons_zero, List.set_cons_succ]
          rfl
        refine one_ (i := 11) (N := some 72) (oi := ⟨some 72, Go.Op.call ⟨Go.Callee.value (Go.Operand.func 32), #[Go.Operand.tmp 71], #[48]⟩, 54, "outright.go:32", #[⟨10, Go.Ground.data⟩, ⟨9, Go.Ground.chain⟩, ⟨9, Go.Ground.guard⟩], some (9, true)⟩) #[true, true, true, true, true, true, true, true, true, true, true, true, true, false, false, false, false] rfl rfl (by kernel_rfl) (by decide) (fun K hK => ?_)
        rw [if_pos (by rfl)]
        go_simp
        (go_at_call 32; (with_reducible refine (HT.out _ A1 c1 H8.out.cx H8.out.cap).mono ?_); rintro e wb ⟨A2, c2, rfl, ho, hb⟩; have K8 := Lib.hid (H8.out.out hb); clear H8; have H8 := K8; clear K8; have HO2 := Lib.hid ho; clear hb ho)
        refine hK.out _ _ (⟨H8.out.x, H8.out.m⟩) (fun hHeld => ?_)
        clear hK K
        try simp only [Act.put, List.setIfInBounds_toArray, List.set_cons_zero, List.set_cons_succ]
        refine one_ (i := 13) (N := some 74) (oi := ⟨some 74, Go.Op.call ⟨Go.Callee.value (Go.Operand.func 32), #[Go.Operand.tmp 73], #[48]⟩, 54, "outright.go:32", #[⟨12, Go.Ground.data⟩, ⟨11, Go.Ground.chain⟩, ⟨9, Go.Ground.guard⟩], some (9, true)⟩) #[true, true, true, true, true, true, true, true, true, true, true, true, true, true, false, false, false] rfl rfl (by kernel_rfl) (by decide) (fun K hK => ?_)
        rw [if_pos (by rfl)]
        go_simp
        (go_at_call 32; (with_reducible refine (HT.out _ none 0 (Kd.C_nil _ _) (by omega)).mono ?_); rintro e wc ⟨A3, c3, rfl, ho, hb⟩; have K8 := Lib.hid (H8.out.out hb); clear H8; have H8 := K8; clear K8; have HO3 := Lib.hid ho; have HO2b := Lib.hid (KI_out HO2.out hb); clear hb ho)
        refine hK.out _ _ (⟨H8.out.x, H8.out.m⟩) (fun hHeld => ?_)
        clear hK K
        try simp only [Act.put, List.setIfInBounds_toArray, List.set_cons_zero, List.set_cons_succ]
        refine one_ (i := 14) (N := some 75) (oi := ⟨some 75, Go.Op.call ⟨Go.Callee.value (Go.Operand.func 31), #[Go.Operand.tmp 72, Go.Operand.tmp 74], #[54, 54]⟩, 4, "outright.go:32", #[⟨11, Go.Ground.data⟩, ⟨13, Go.Ground.data⟩, ⟨13, Go.Ground.chain⟩, ⟨9, Go.Ground.guard⟩], some (9, true)⟩) #[true, true, true, true, true, true, true, true, true, true, true, true, true, true, true, false, false] rfl rfl (by kernel_rfl) (by decide) (fun K hK => ?_)
        rw [if_pos (by rfl)]
        go_simp
        (go_at_call 31; (with_reducible refine (HSm.out _ A2 A3 c2 c3 (KI_C HO2b.out).2.2 (KI_C HO3.out).2.2 (KI_cap HO2b.out) (KI_cap HO3.out)).mono ?_); rintro e wd ⟨rfl, hb⟩; have K8 := Lib.hid (H8.out.out hb); clear H8; have H8 := K8; clear K8; clear hb)
        refine hK.out _ _ (⟨H8.out.x, H8.out.m⟩) (fun hHeld => ?_)
        clear hK K
        try simp only [Act.put, List.setIfInBounds_toArray, List.set_cons_zero, List.set_cons_succ]
        refine pure_ (i := 15) (N := some 76) (v := ?_) (a' := ?_) #[true, true, true, true, true, true, true, true, true, true, true, true, true, true, true, true, false] rfl rfl (by kernel_rfl) (fun _ _ _ h => h) (Or.inl ⟨by rfl, ?_⟩) ?_ ?_
        rotate_left
        · intro w'
          go_simp
          (try with_reducible rfl)
        rotate_left
        · simp only [Act.put, List.setIfInBounds_toArray, List.set_cons_zero, List.set_cons_succ]
          rfl
        refine pure_ (i := 16) (N := some 2) (v := ?_) (a' := ?_) #[true, true, true, true, true, true, true, true, true, true, true, true, true, true, true, true, true] rfl rfl (by kernel_rfl) (fun _ _ _ h => h) (Or.inl ⟨by rfl, ?_⟩) ?_ ?_
        rotate_left
        · intro w'
          go_simp
          (try with_reducible rfl)
        rotate_left
        · simp only [Act.put, List.setIfInBounds_toArray, List.set_cons_zero, List.set_cons_succ]
          rfl
        refine done_ (by kernel_rfl) ?_
        go_wp2_with fail
        go_ret
        exact ⟨rfl, H8.out.below⟩
end Go.Proofs.YtjlfoiocceepjaaDoor
