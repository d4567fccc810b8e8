/-
  WireApart, walked.
-/
import Derived.Test.YtjlfoiocceepjaaDoorAwk5
import Derived.Test.YtjlfoiocceepjaaDoorSame
namespace Go.Proofs.YtjlfoiocceepjaaDoor
open Go.RowKit Go.Proofs.YtjlfoiocceepjaaDoorW.PrintWords Go.Proofs.YtjlfoiocceepjaaDoorW.PrintLast Go.Proofs.YtjlfoiocceepjaaDoorW.PrintMore
set_option linter.unusedVariables false
set_option linter.unusedSimpArgs false

/-! ### plain: a message's text tells the message -/
theorem restN_inj (n m : Nat → Int) (T U : List UInt8) (hT : T.length ≤ 100000) (hU : U.length ≤ 100000) (hn : ∀ k, k < 10 → 0 ≤ n k ∧ n k ≤ 1099511627776) (hm : ∀ k, k < 10 → 0 ≤ m k ∧ m k ≤ 1099511627776) :
    ∀ j k, k + j = 10 → restN n T j k = restN m U j k → (∀ i, k ≤ i → i < 10 → n i = m i) ∧ T = U
  | 0, k, _, h => ⟨fun i h1 h2 => by omega, h⟩
  | j + 1, k, hk, h => by
    have a := hn k (by omega)
    have b := hm k (by omega)
    have l1 := restN_length n T j (k + 1)
    have l2 := restN_length m U j (k + 1)
    obtain ⟨h1, h2⟩ := putL_inj (by omega) (by omega) (by omega) (by omega) h
    obtain ⟨h3, h4⟩ := restN_inj n m T U hT hU hn hm j (k + 1) (by omega) h2
    exact ⟨fun i hi1 hi2 => by
      by_cases e : i = k
      · rw [e]; omega
      · exact h3 i (by omega) hi2, h4⟩
theorem toksL_inj : ∀ ts us : List Int, (∀ t ∈ ts, 0 ≤ t ∧ t ≤ 255) → (∀ t ∈ us, 0 ≤ t ∧ t ≤ 255) → toksL ts = toksL us → ts = us
  | [], [], _, _, _ => rfl
  | [], u :: us, _, _, h => by simp [toksL] at h
  | t :: ts, [], _, _, h => by simp [toksL] at h
  | t :: ts, u :: us, h1, h2, h => by
    simp only [toksL, List.map_cons, List.cons.injEq] at h
    have e := toksL_inj ts us (fun x hx => h1 x (List.mem_cons_of_mem _ hx)) (fun x hx => h2 x (List.mem_cons_of_mem _ hx)) h.2
    have a := h1 t (by simp)
    have b := h2 u (by simp)
    have c := congrArg UInt8.toNat h.1
    rw [UInt8.toNat_ofNat', UInt8.toNat_ofNat'] at c
    rw [e, show t = u by omega]
theorem tailT_length {ts : List Int} {s : List UInt8} (ht : ts.length ≤ 128) (hs : s.length ≤ 50000) : (tailT ts s).length ≤ 50200 := by
  have := putL_length s.length
  unfold tailT
  simp only [List.length_append, toksL_length]
  omega
theorem msgL_inj {n m : Nat → Int} {ts us : List Int} {s t : List UInt8} (h1 : Good n ts s.length) (h2 : Good m us t.length) (h : msgL n ts s = msgL m us t) : (∀ i, i < 10 → n i = m i) ∧ ts = us ∧ s = t := by
  rw [msgL_rest, msgL_rest] at h
  have a1 := h1.len; have a2 := h2.len; have a3 := h1.sz; have a4 := h2.sz
  have l1 := tailT_length (ts := ts) (s := s) a1 a3
  have l2 := tailT_length (ts := us) (s := t) a2 a4
  have p1 := putL_length ts.length
  have p2 := putL_length us.length
  obtain ⟨h3, h4⟩ := restN_inj n m _ _ (by simp only [List.length_append]; omega) (by simp only [List.length_append]; omega) h1.num h2.num 10 0 rfl h
  obtain ⟨h5, h6⟩ := putL_inj (by omega) (by omega) (by omega) (by omega) h4
  unfold tailT at h6
  obtain ⟨h7, h8⟩ := List.append_inj h6 (by rw [toksL_length, toksL_length, h5])
  obtain ⟨_, h9⟩ := putL_inj (by omega) (by omega) (by omega) (by omega) h8
  exact ⟨fun i hi => h3 i (by omega) hi, toksL_inj ts us h1.tok h2.tok h7, h9⟩
theorem msgL_congr {n m : Nat → Int} {ts : List Int} {s : List UInt8} (h : ∀ j, j < 10 → n j = m j) : msgL n ts s = msgL m ts s := by
  have : ∀ k, k ≤ 10 → numsL n k = numsL m k := by
    intro k
    induction k with
    | zero => intro _; rfl
    | succ k ih => intro hk; rw [numsL, numsL, ih (by omega), h k (by omega)]
  unfold msgL
  rw [this 10 (by omega)]
/-- both messages, cut -/
structure Ap (w W : World) (g h B0 : Nat) (n m : Nat → Int) (A1 B1 : Option Addr) (L c1 M d1 : Nat) (ts us : List Int) (s t : ByteArray) : Prop where
  x : Blk W g 48 (msgC n (.slice A1 L c1) s)
  y : Blk W h 48 (msgC m (.slice B1 M d1) t)
  rx : KI.R 3 W B0 All (.slice A1 L c1) ts
  ry : KI.R 3 W B0 All (.slice B1 M d1) us
  gl : Gl W
  below : Below w.heap.size w W
theorem Ap.out {w W W' : World} {g h B0 : Nat} {n m : Nat → Int} {A1 B1 : Option Addr} {L c1 M d1 : Nat} {ts us : List Int} {s t : ByteArray} (x : Ap w W g h B0 n m A1 B1 L c1 M d1 ts us s t) (hb : Below W.heap.size W W') : Ap w W' g h B0 n m A1 B1 L c1 M d1 ts us s t :=
  ⟨x.x.out hb, x.y.out hb, KI_out x.rx hb, KI_out x.ry hb, x.gl.out hb, x.below.trans (hb.mono x.below.size)⟩
/-- both, as they came -/
structure Ap0 (w W : World) (g h : Nat) (a b : Array Value) : Prop where
  x : Blk W g 48 a
  y : Blk W h 48 b
  gh : g < h
  lo : w.heap.size ≤ g
  gl : Gl W
  below : Below w.heap.size w W
theorem Ap0.out {w W W' : World} {g h : Nat} {a b : Array Value} (x : Ap0 w W g h a b) (hb : Below W.heap.size W W') : Ap0 w W' g h a b :=
  ⟨x.x.out hb, x.y.out hb, x.gh, x.lo, x.gl.out hb, x.below.trans (hb.mono x.below.size)⟩
/-- what Write answers -/
def WA (n : Nat → Int) (ts : List Int) (s : ByteArray) (v : Value) (X : ByteArray) : Prop :=
  (∃ p q : Int, q ≠ 0 ∧ v = .iface 69 (.agg #[.int .i64 p, .iface 33 (.int .i64 q)]) ∧ X = ⟨#[]⟩) ∨ (Good n ts s.size ∧ v = .nilIface ∧ X = str (packL (msgL n ts s.data.toList)))
theorem write_way (n : Nat → Int) (ts : List Int) (s : ByteArray) (hs : s.size ≤ 9223372036854775807) : ∃ v X, WA n ts s v X ∧ ∀ (V : World) (A : Option Addr) (c : Nat), KI.C V A ts.length ts → ts.length ≤ c → c ≤ 9223372036854775807 → Calls Tryd.prog 29 #[.agg (msgC n (.slice A ts.length c) s)] V fun e w' => e = .returned (.tuple #[.string X, v]) ∧ Below V.heap.size V w' := by
  obtain ⟨r, hr⟩ : ∃ r, r = chk n ts s.size := ⟨_, rfl⟩
  obtain ⟨p, q⟩ := r
  have hc := hr.symm
  by_cases hq : q = 0
  · have hg := good_of_chk (n := n) (ts := ts) (sz := s.size) (by rw [hc]; exact hq)
    exact ⟨.nilIface, _, .inr ⟨hg.1, rfl, rfl⟩, fun V A c hr h1 h2 => write_ok n A c ts s V hr h1 h2 hg.1⟩
  · exact ⟨_, _, .inl ⟨p, q, hq, rfl, rfl⟩, fun V A c hr h1 h2 => write_bad n A c ts s V hr h1 h2 hs p q hq hc⟩
set_option maxRecDepth 100000 in
set_option maxHeartbeats 8000000 in
theorem wapart_in (n m : Nat → Int) (A B : Option Addr) (c d : Nat) (ts us ts2 us2 : List Int) (s t s2 t2 X Y : ByteArray) (v u : Value) (w : World) (hr : KI.C w A ts.length ts) (hu : KI.C w B us.length us) (hc : ts.length ≤ c) (hd : us.length ≤ d) (hcm : c ≤ 9223372036854775807) (hdm : d ≤ 9223372036854775807) (hg : Gl w)
    (hts : Hid (ts2 = ts.take 140)) (hus : Hid (us2 = us.take 140)) (hs : Hid (s2 = str (s.data.toList.take 1000))) (ht : Hid (t2 = str (t.data.toList.take 1000)))
    (HW1 : Hid (∀ (V : World) (A : Option Addr) (c : Nat), KI.C V A ts2.length ts2 → ts2.length ≤ c → c ≤ 9223372036854775807 → Calls Tryd.prog 29 #[.agg (msgC n (.slice A ts2.length c) s2)] V fun e w' => e = .returned (.tuple #[.string X, v]) ∧ Below V.heap.size V w'))
    (HW2 : Hid (∀ (V : World) (A : Option Addr) (c : Nat), KI.C V A us2.length us2 → us2.length ≤ c → c ≤ 9223372036854775807 → Calls Tryd.prog 29 #[.agg (msgC m (.slice A us2.length c) t2)] V fun e w' => e = .returned (.tuple #[.string Y, u]) ∧ Below V.heap.size V w'))
    (HV : (∃ p q : Int, v = .iface 69 (.agg #[.int .i64 p, .iface 33 (.int .i64 q)]) ∧ X = ⟨#[]⟩) ∨ v = .nilIface)
    (HU : (∃ p q : Int, u = .iface 69 (.agg #[.int .i64 p, .iface 33 (.int .i64 q)]) ∧ Y = ⟨#[]⟩) ∨ u = .nilIface)
    (HXY : Hid (v = .nilIface → u = .nilIface → (X = Y ↔ sameB n m ts2 us2 s2 t2 = true))) :
    Calls Tryd.prog 9 #[.agg (msgC n (.slice A ts.length c) s), .agg (msgC m (.slice B us.length d) t)] w fun e w' => e = .returned (.bool true) ∧ Below w.heap.size w w' := by
  have HF1 : Hid (∀ V, Below w.heap.size w V → Calls Tryd.prog 28 #[.agg (msgC n (.slice A ts.length c) s)] V fun e w' => ∃ (A' : Option Addr) (c' : Nat), e = .returned (.agg (msgC n (.slice A' ts2.length c') s2)) ∧ KI.R 3 w' V.heap.size All (.slice A' ts2.length c') ts2 ∧ Below V.heap.size V w') := Lib.hid (fun V hV => by rw [hts.out, hs.out]; exact few15_any n A c ts s V (Kd.C_below hr hV) hc hcm)
  have HF2 : Hid (∀ V, Below w.heap.size w V → Calls Tryd.prog 28 #[.agg (msgC m (.slice B us.length d) t)] V fun e w' => ∃ (A' : Option Addr) (c' : Nat), e = .returned (.agg (msgC m (.slice A' us2.length c') t2)) ∧ KI.R 3 w' V.heap.size All (.slice A' us2.length c') us2 ∧ Below V.heap.size V w') := Lib.hid (fun V hV => by rw [hus.out, ht.out]; exact few15_any m B d us t V (Kd.C_below hu hV) hd hdm)
  have ets : ts2.take 140 = ts2 := List.take_of_length_le (by rw [hts.out, List.length_take]; omega)
  have eus : us2.take 140 = us2 := List.take_of_length_le (by rw [hus.out, List.length_take]; omega)
  have es : str (s2.data.toList.take 1000) = s2 := by rw [hs.out, str_list, List.take_take]; simp
  have et : str (t2.data.toList.take 1000) = t2 := by rw [ht.out, str_list, List.take_take]; simp
  have HT1 : Hid (∀ V A c, KI.C V A ts2.length ts2 → ts2.length ≤ c → c ≤ 9223372036854775807 → Calls Tryd.prog 32 #[.agg (msgC n (.slice A ts2.length c) s2)] V fun e w' => ∃ (A' : Option Addr) (c' : Nat), e = .returned (.agg (msgC n (.slice A' ts2.length c') s2)) ∧ KI.R 3 w' V.heap.size All (.slice A' ts2.length c') ts2 ∧ Below V.heap.size V w') := Lib.hid (fun V A c h1 h2 h3 => by have := told_any n A c ts2 s2 V h1 h2 h3; rw [ets, es] at this; exact this)
  have HT2 : Hid (∀ V A c, KI.C V A us2.length us2 → us2.length ≤ c → c ≤ 9223372036854775807 → Calls Tryd.prog 32 #[.agg (msgC m (.slice A us2.length c) t2)] V fun e w' => ∃ (A' : Option Addr) (c' : Nat), e = .returned (.agg (msgC m (.slice A' us2.length c') t2)) ∧ KI.R 3 w' V.heap.size All (.slice A' us2.length c') us2 ∧ Below V.heap.size V w') := Lib.hid (fun V A c h1 h2 h3 => by have := told_any m A c us2 t2 V h1 h2 h3; rw [eus, et] at this; exact this)
  have HSm : Hid (∀ V A B c d, KI.C V A ts2.length ts2 → KI.C V B us2.length us2 → ts2.length ≤ c → us2.length ≤ d → c ≤ 9223372036854775807 → d ≤ 9223372036854775807 → Calls Tryd.prog 31 #[.agg (msgC n (.slice A ts2.length c) s2), .agg (msgC m (.slice B us2.length d) t2)] V fun e w' => e = .returned (.bool (sameB n m ts2 us2 s2 t2)) ∧ Below V.heap.size V w') := Lib.hid (fun V A B c d h1 h2 h3 h4 h5 h6 => same_any n m A B c d ts2 us2 s2 t2 V h1 h2 h3 h4 h5 h6)
  have HBe := Lib.hid (Below.refl w.heap.size w)
  have HG := Lib.hid hg
  have HPos := Lib.hid hg.pos
  have hu48 := Tryd.underlying48
  clear hr hu ets eus es et hts hus hs ht hg
  unfold msgC
  go_enter Tryd.func9, Tryd.ntmps9
  go_wp2_with (first
    | ((with_reducible refine gate_dst (N := 2) rfl ?_); refine box_event rfl (N := 2) rfl (cs := msgC n (.slice A ts.length c) s) (t := 48) ?hr ?_; (case hr => first | (go_simp; done) | (go_simp; rfl)); intro g hgg W1 hbox hb; have HLo := Lib.hid (Nat.le_of_eq hgg.symm); clear hgg; have HX := Lib.hid (show Blk W1 g 48 (msgC n (.slice A ts.length c) s) from hbox); have HB := Lib.hid (HBe.out.trans (hb.mono HBe.out.size)); have HG1 := Lib.hid (HG.out.out hb); clear hb hbox)
    | ((with_reducible refine gate_dst (N := 3) rfl ?_); refine box_event rfl (N := 3) rfl (cs := msgC m (.slice B us.length d) t) (t := 48) ?hr ?_; (case hr => first | (go_simp; done) | (go_simp; rfl)); intro h hhh W2 hbox hb; have HGH := Lib.hid (show g < h by rw [hhh]; exact HX.out.lt); clear hhh; have HS0 : Hid (Ap0 w W2 g h (msgC n (.slice A ts.length c) s) (msgC m (.slice B us.length d) t)) := Lib.hid ⟨HX.out.out hb, hbox, HGH.out, HLo.out, HG1.out.out hb, HB.out.trans (hb.mono HB.out.size)⟩; clear hb hbox)
    | fail)
  have HS : Hid (Ap0 w W2.drew g h (msgC n (.slice A ts.length c) s) (msgC m (.slice B us.length d) t)) := Lib.hid (HS0.out.out (Below.refl _ _).drew)
  have HHd : Hid (h < W2.drew.heap.size) := Lib.hid HS.out.y.lt
  clear HS0 HX HB HG1 HBe
  refine start_ (n := 6) (S := fun W' => Blk W' g 48 (msgC n (.slice A ts.length c) s) ∧ Blk W' h 48 (msgC m (.slice B us.length d) t)) (ds := [4, 5]) #[false, false, false, false, false, false] (by kernel_rfl) rfl rfl (⟨HS.out.x, HS.out.y⟩) (fun hHeld => ?_)
  generalize W2.drew = wd at *
  refine take_ (i := 0) (N := some 9) (v := ?_) (a' := ?_) #[true, false, false, false, false, false] rfl rfl (by kernel_rfl) (fun _ _ _ h => h) (Or.inl ⟨by rfl, ?_⟩) hHeld ?_ ?_
  rotate_left
  · intro w' s0
    refine exec_load_part _ (.tmp 2) 48 ?_ g 0 (msgC n (.slice A ts.length c) s) ?_ aggMsg sizeMsg 48 _ s0.1 ?_
    · rfl
    · rfl
    · intro j v hv
      rw [Nat.zero_add]
      simpa using hv
  rotate_left
  · simp only [Act.put, List.setIfInBounds_toArray, List.set_cons_zero, List.set_cons_succ]
    rfl
  refine take_ (i := 2) (N := some 11) (v := ?_) (a' := ?_) #[true, false, true, false, false, false] rfl rfl (by kernel_rfl) (fun _ _ _ h => h) (Or.inl ⟨by rfl, ?_⟩) hHeld ?_ ?_
  rotate_left
  · intro w' s0
    refine exec_load_part _ (.tmp 3) 48 ?_ h 0 (msgC m (.slice B us.length d) t) ?_ aggMsg sizeMsg 48 _ s0.2 ?_
    · rfl
    · rfl
    · intro j v hv
      rw [Nat.zero_add]
      simpa using hv
  rotate_left
  · simp only [Act.put, List.setIfInBounds_toArray, List.set_cons_zero, List.set_cons_succ]
    rfl
  refine one_ (i := 1) (N := some 10) (oi := ⟨some 10, Go.Op.call ⟨Go.Callee.value (Go.Operand.func 28), #[Go.Operand.tmp 9], #[48]⟩, 48, "outright.go:10", #[⟨0, Go.Ground.data⟩], none⟩) #[true, true, true, false, false, false] rfl rfl (by kernel_rfl) (by decide) (fun K hK => ?_)
  rw [if_pos (by rfl)]
  go_simp
  (go_at_call 28; (with_reducible refine (HF1.out _ HS.out.below).mono ?_); rintro e wa ⟨A1, c1, rfl, ho, hb⟩; have HSa := Lib.hid (HS.out.out hb); have HO1 := Lib.hid (show KI.R 3 wa wd.heap.size All (.slice A1 ts2.length c1) ts2 from ho); have HWa := Lib.hid hb.size; clear ho hb)
  refine hK.out _ _ (⟨HSa.out.x, HSa.out.y⟩) (fun hHeld => ?_)
  clear hK K
  try simp only [Act.put, List.setIfInBounds_toArray, List.set_cons_zero, List.set_cons_succ]
  refine one_ (i := 3) (N := some 12) (oi := ⟨some 12, Go.Op.call ⟨Go.Callee.value (Go.Operand.func 28), #[Go.Operand.tmp 11], #[48]⟩, 48, "outright.go:10", #[⟨2, Go.Ground.data⟩, ⟨1, Go.Ground.chain⟩], none⟩) #[true, true, true, true, false, false] rfl rfl (by kernel_rfl) (by decide) (fun K hK => ?_)
  rw [if_pos (by rfl)]
  go_simp
  (go_at_call 28; (with_reducible refine (HF2.out _ HSa.out.below).mono ?_); rintro e wb ⟨B1, d1, rfl, ho, hb⟩; have HSb := Lib.hid (HSa.out.out hb); have HO1b := Lib.hid (KI_out HO1.out hb); have HO2 := Lib.hid (Kd.R_lower ho (show wd.heap.size ≤ wa.heap.size from HWa.out)); clear ho hb)
  refine hK.out _ _ (⟨HSb.out.x, HSb.out.y⟩) (fun hHeld => ?_)
  clear hK K
  try simp only [Act.put, List.setIfInBounds_toArray, List.set_cons_zero, List.set_cons_succ]
  refine last_ (i := 4) (N := none) (oi := ⟨none, Go.Op.store 48 (Go.Operand.tmp 2) (Go.Operand.tmp 10), 0, "outright.go:10", #[⟨1, Go.Ground.data⟩, ⟨3, Go.Ground.chain⟩, ⟨0, Go.Ground.phase⟩, ⟨1, Go.Ground.phase⟩, { on := 2, ground := Go.Ground.textOnly Go.Departure.lateStores }, { on := 3, ground := Go.Ground.textOnly Go.Departure.lateStoresUnsure }], none⟩) #[true, true, true, true, true, false] rfl rfl (by kernel_rfl) (by decide) (fun K hK => ?_)
  refine step_store_part _ (by rfl) rfl (.tmp 2) (.tmp 10) 48 rfl g 0 (msgC n (.slice A1 ts2.length c1) s2) rfl rfl sizeMsg rfl 48 _ HSb.out.x (Nat.le_refl _) (msgC n (.slice A1 ts2.length c1) s2) rfl ?_
  intro wc hb3 hfr
  have HXc := Lib.hid hb3
  have HYc := Lib.hid (HSb.out.y.away hfr (Nat.ne_of_gt HSb.out.gh))
  have HO1c := Lib.hid (KI_far_all HO1b.out hfr (Nat.lt_trans HSb.out.gh HHd.out))
  have HO2c := Lib.hid (KI_far_all HO2.out hfr (Nat.lt_trans HSb.out.gh HHd.out))
  have HBc := Lib.hid (HSb.out.below.trans (hfr.below HSb.out.lo))
  have HGc := Lib.hid (HSb.out.gl.below (hfr.below (Nat.le_refl _)) (Nat.lt_of_lt_of_le HPos.out HSb.out.lo))
  clear hb3 hfr
  refine hK.out _ _ ?_
  clear hK K
  try simp only [Act.put, List.setIfInBounds_toArray, List.set_cons_zero, List.set_cons_succ]
  refine last_ (i := 5) (N := none) (oi := ⟨none, Go.Op.store 48 (Go.Operand.tmp 3) (Go.Operand.tmp 12), 0, "outright.go:10", #[⟨3, Go.Ground.data⟩, ⟨4, Go.Ground.chain⟩, ⟨0, Go.Ground.phase⟩, ⟨1, Go.Ground.phase⟩, ⟨2, Go.Ground.phase⟩, ⟨3, Go.Ground.phase⟩, ⟨4, Go.Ground.phase⟩], none⟩) #[true, true, true, true, true, true] rfl rfl (by kernel_rfl) (by decide) (fun K hK => ?_)
  refine step_store_part _ (by rfl) rfl (.tmp 3) (.tmp 12) 48 rfl h 0 (msgC m (.slice B1 us2.length d1) t2) rfl rfl sizeMsg rfl 48 _ HYc.out (Nat.le_refl _) (msgC m (.slice B1 us2.length d1) t2) rfl ?_
  intro we hb3 hfr
  have HE : Hid (Ap w we g h wd.heap.size n m A1 B1 ts2.length c1 us2.length d1 ts2 us2 s2 t2) := Lib.hid ⟨HXc.out.away hfr (Nat.ne_of_lt HSb.out.gh), hb3, KI_far_all HO1c.out hfr HHd.out, KI_far_all HO2c.out hfr HHd.out, HGc.out.below (hfr.below (Nat.le_refl _)) (Nat.lt_of_lt_of_le HPos.out (Nat.le_trans HSb.out.lo (Nat.le_of_lt HSb.out.gh))), HBc.out.trans (hfr.below (Nat.le_trans HSb.out.lo (Nat.le_of_lt HSb.out.gh)))⟩
  clear hb3 hfr
  refine hK.out _ _ ?_
  clear hK K
  try simp only [Act.put, List.setIfInBounds_toArray, List.set_cons_zero, List.set_cons_succ]
  refine done_ (by kernel_rfl) ?_
  clear HXc HYc HO1c HO2c HBc HGc HSb HO1b HO2 HSa HO1 HWa HS HF1 HF2
  have HXY2 := HXY.out
  clear HXY
  rcases HV with ⟨p, q, rfl, rfl⟩ | rfl
  · rcases HU with ⟨p2, q2, rfl, rfl⟩ | rfl
    all_goals
      clear HXY2
      go_wp2_with (first
        | ((with_reducible refine gate_dst (N := 14) rfl ?_); refine wpList_load_part _ rfl (.tmp 2) 48 rfl g 0 (msgC n (.slice A1 ts2.length c1) s2) rfl aggMsg sizeMsg 48 _ HE.out.x ?_ ?_; (intro j v hv; rw [Nat.zero_add]; simpa using hv))
        | (go_at_call 29; (with_reducible refine (HW1.out _ A1 c1 (KI_C HE.out.rx).2.2 (KI_C HE.out.rx).2.1 (KI_cap HE.out.rx)).mono ?_); rintro e wf ⟨rfl, hb⟩; have K8 := Lib.hid (HE.out.out hb); clear HE; have HE := K8; clear K8; clear hb)
        | ((with_reducible refine gate_dst (N := 19) rfl ?_); refine wpList_load_part _ rfl (.tmp 3) 48 rfl h 0 (msgC m (.slice B1 us2.length d1) t2) rfl aggMsg sizeMsg 48 _ HE.out.y ?_ ?_; (intro j v hv; rw [Nat.zero_add]; simpa using hv))
        | (go_at_call 29; (with_reducible refine (HW2.out _ B1 d1 (KI_C HE.out.ry).2.2 (KI_C HE.out.ry).2.1 (KI_cap HE.out.ry)).mono ?_); rintro e wf ⟨rfl, hb⟩; have K8 := Lib.hid (HE.out.out hb); clear HE; have HE := K8; clear K8; clear hb)
        | (go_at_call 30; (with_reducible refine (awake5_any _ HE.out.gl).mono ?_); rintro e wf ⟨rfl, hb⟩; have K8 := Lib.hid (HE.out.out hb); clear HE; have HE := K8; clear K8; clear hb)
        | fail)
      go_ret
      exact ⟨rfl, HE.out.below⟩
  · rcases HU with ⟨p2, q2, rfl, rfl⟩ | rfl
    · clear HXY2
      go_wp2_with (first
        | ((with_reducible refine gate_dst (N := 14) rfl ?_); refine wpList_load_part _ rfl (.tmp 2) 48 rfl g 0 (msgC n (.slice A1 ts2.length c1) s2) rfl aggMsg sizeMsg 48 _ HE.out.x ?_ ?_; (intro j v hv; rw [Nat.zero_add]; simpa using hv))
        | (go_at_call 29; (with_reducible refine (HW1.out _ A1 c1 (KI_C HE.out.rx).2.2 (KI_C HE.out.rx).2.1 (KI_cap HE.out.rx)).mono ?_); rintro e wf ⟨rfl, hb⟩; have K8 := Lib.hid (HE.out.out hb); clear HE; have HE := K8; clear K8; clear hb)
        | ((with_reducible refine gate_dst (N := 19) rfl ?_); refine wpList_load_part _ rfl (.tmp 3) 48 rfl h 0 (msgC m (.slice B1 us2.length d1) t2) rfl aggMsg sizeMsg 48 _ HE.out.y ?_ ?_; (intro j v hv; rw [Nat.zero_add]; simpa using hv))
        | (go_at_call 29; (with_reducible refine (HW2.out _ B1 d1 (KI_C HE.out.ry).2.2 (KI_C HE.out.ry).2.1 (KI_cap HE.out.ry)).mono ?_); rintro e wf ⟨rfl, hb⟩; have K8 := Lib.hid (HE.out.out hb); clear HE; have HE := K8; clear K8; clear hb)
        | (go_at_call 30; (with_reducible refine (awake5_any _ HE.out.gl).mono ?_); rintro e wf ⟨rfl, hb⟩; have K8 := Lib.hid (HE.out.out hb); clear HE; have HE := K8; clear K8; clear hb)
        | fail)
      go_ret
      exact ⟨rfl, HE.out.below⟩
    · have hxy := HXY2 rfl rfl
      clear HXY2
      by_cases hX : X = Y
      · have hb0 := hxy.1 hX
        rw [hb0] at HSm
        subst hX
        clear hxy hb0
        go_wp2_with (first
          | ((with_reducible refine gate_dst (N := 14) rfl ?_); refine wpList_load_part _ rfl (.tmp 2) 48 rfl g 0 (msgC n (.slice A1 ts2.length c1) s2) rfl aggMsg sizeMsg 48 _ HE.out.x ?_ ?_; (intro j v hv; rw [Nat.zero_add]; simpa using hv))
          | (go_at_call 29; (with_reducible refine (HW1.out _ A1 c1 (KI_C HE.out.rx).2.2 (KI_C HE.out.rx).2.1 (KI_cap HE.out.rx)).mono ?_); rintro e wf ⟨rfl, hb⟩; have K8 := Lib.hid (HE.out.out hb); clear HE; have HE := K8; clear K8; clear hb)
          | ((with_reducible refine gate_dst (N := 19) rfl ?_); refine wpList_load_part _ rfl (.tmp 3) 48 rfl h 0 (msgC m (.slice B1 us2.length d1) t2) rfl aggMsg sizeMsg 48 _ HE.out.y ?_ ?_; (intro j v hv; rw [Nat.zero_add]; simpa using hv))
          | (go_at_call 29; (with_reducible refine (HW2.out _ B1 d1 (KI_C HE.out.ry).2.2 (KI_C HE.out.ry).2.1 (KI_cap HE.out.ry)).mono ?_); rintro e wf ⟨rfl, hb⟩; have K8 := Lib.hid (HE.out.out hb); clear HE; have HE := K8; clear K8; clear hb)
          | fail)
        replace HE := Lib.hid (HE.out.out (Below.refl _ _).drew)
        refine start_ (n := 13) (S := fun W' => Blk W' g 48 (msgC n (.slice A1 ts2.length c1) s2) ∧ Blk W' h 48 (msgC m (.slice B1 us2.length d1) t2)) (ds := []) #[false, false, false, false, false, false, false, false, false, false, false, false, false] (by kernel_rfl) rfl rfl (⟨HE.out.x, HE.out.y⟩) (fun hHeld => ?_)
        refine one_ (i := 0) (N := some 46) (oi := ⟨some 46, Go.Op.call ⟨Go.Callee.value (Go.Operand.func 30), #[], #[]⟩, 4, "outright.go:16", #[], none⟩) #[true, false, false, false, false, false, false, false, false, false, false, false, false] rfl rfl (by kernel_rfl) (by decide) (fun K hK => ?_)
        rw [if_pos (by rfl)]
        go_simp
        (go_at_call 30; (with_reducible refine (awake5_any _ HE.out.gl).mono ?_); rintro e wa2 ⟨rfl, hb⟩; have K8 := Lib.hid (HE.out.out hb); clear HE; have HE := K8; clear K8; clear hb)
        refine hK.out _ _ (⟨HE.out.x, HE.out.y⟩) (fun hHeld => ?_)
        clear hK K
        try simp only [Act.put, List.setIfInBounds_toArray, List.set_cons_zero, List.set_cons_succ]
        refine pure_ (i := 1) (N := some 47) (v := ?_) (a' := ?_) #[true, true, false, false, false, false, false, false, false, false, false, false, false] rfl rfl (by kernel_rfl) (fun _ _ _ h => h) (Or.inl ⟨by rfl, ?_⟩) ?_ ?_
        rotate_left
        · intro w'
          go_simp
          (try with_reducible rfl)
        rotate_left
        · simp only [Act.put, List.setIfInBounds_toArray, List.set_cons_zero, List.set_cons_succ]
          rfl
        refine pure_ (i := 2) (N := some 48) (v := ?_) (a' := ?_) #[true, true, true, false, false, false, false, false, false, false, false, false, false] rfl rfl (by kernel_rfl) (fun _ _ _ h => h) (Or.inl ⟨by rfl, ?_⟩) ?_ ?_
        rotate_left
        · intro w'
          go_simp
          (try with_reducible rfl)
        rotate_left
        · simp only [Act.put, List.setIfInBounds_toArray, List.set_cons_zero, List.set_cons_succ]
          rfl
        refine pure_ (i := 3) (N := some 49) (v := ?_) (a' := ?_) #[true, true, true, true, false, false, false, false, false, false, false, false, false] rfl rfl (by kernel_rfl) (fun _ _ _ h => h) (Or.inl ⟨by rfl, ?_⟩) ?_ ?_
        rotate_left
        · intro w'
          go_simp
          (try with_reducible rfl)
        rotate_left
        · simp only [Act.put, List.setIfInBounds_toArray, List.set_cons_zero, List.set_cons_succ]
          rfl
        refine pure_ (i := 4) (N := some 50) (v := ?_) (a' := ?_) #[true, true, true, true, true, false, false, false, false, false, false, false, false] rfl rfl (by kernel_rfl) (fun _ _ _ h => h) (Or.inl ⟨by rfl, ?_⟩) ?_ ?_
        rotate_left
        · intro w'
          go_simp
          (try with_reducible rfl)
        rotate_left
        · simp only [Act.put, List.setIfInBounds_toArray, List.set_cons_zero, List.set_cons_succ]
          rfl
        refine take_ (i := 5) (N := some 51) (v := ?_) (a' := ?_) #[true, true, true, true, true, true, false, false, false, false, false, false, false] rfl rfl (by kernel_rfl) (fun _ _ _ h => h) (Or.inl ⟨by rfl, ?_⟩) hHeld ?_ ?_
        rotate_left
        · intro w' s0
          refine exec_load_part _ (.tmp 2) 48 ?_ g 0 (msgC n (.slice A1 ts2.length c1) s2) ?_ aggMsg sizeMsg 48 _ s0.1 ?_
          · rfl
          · rfl
          · intro j v hv
            rw [Nat.zero_add]
            simpa using hv
        rotate_left
        · simp only [Act.put, List.setIfInBounds_toArray, List.set_cons_zero, List.set_cons_succ]
          rfl
        refine take_ (i := 7) (N := some 53) (v := ?_) (a' := ?_) #[true, true, true, true, true, true, false, true, false, false, false, false, false] rfl rfl (by kernel_rfl) (fun _ _ _ h => h) (Or.inl ⟨by rfl, ?_⟩) hHeld ?_ ?_
        rotate_left
        · intro w' s0
          refine exec_load_part _ (.tmp 3) 48 ?_ h 0 (msgC m (.slice B1 us2.length d1) t2) ?_ aggMsg sizeMsg 48 _ s0.2 ?_
          · rfl
          · rfl
          · intro j v hv
            rw [Nat.zero_add]
            simpa using hv
        rotate_left
        · simp only [Act.put, List.setIfInBounds_toArray, List.set_cons_zero, List.set_cons_succ]
          rfl
        refine one_ (i := 6) (N := some 52) (oi := ⟨some 52, Go.Op.call ⟨Go.Callee.value (Go.Operand.func 32), #[Go.Operand.tmp 51], #[48]⟩, 54, "outright.go:16", #[⟨5, Go.Ground.data⟩, ⟨1, Go.Ground.chain⟩, ⟨1, Go.Ground.guard⟩], some (1, true)⟩) #[true, true, true, true, true, true, true, true, false, false, false, false, false] rfl rfl (by kernel_rfl) (by decide) (fun K hK => ?_)
        rw [if_pos (by rfl)]
        go_simp
        (go_at_call 32; (with_reducible refine (HT1.out _ A1 c1 (KI_C HE.out.rx).2.2 (KI_C HE.out.rx).2.1 (KI_cap HE.out.rx)).mono ?_); rintro e wb2 ⟨A3, c3, rfl, ho, hb⟩; have K8 := Lib.hid (HE.out.out hb); clear HE; have HE := K8; clear K8; have HO3 := Lib.hid ho; clear hb ho)
        refine hK.out _ _ (⟨HE.out.x, HE.out.y⟩) (fun hHeld => ?_)
        clear hK K
        try simp only [Act.put, List.setIfInBounds_toArray, List.set_cons_zero, List.set_cons_succ]
        refine one_ (i := 8) (N := some 54) (oi := ⟨some 54, Go.Op.call ⟨Go.Callee.value (Go.Operand.func 32), #[Go.Operand.tmp 53], #[48]⟩, 54, "outright.go:16", #[⟨7, Go.Ground.data⟩, ⟨6, Go.Ground.chain⟩, ⟨1, Go.Ground.guard⟩], some (1, true)⟩) #[true, true, true, true, true, true, true, true, true, false, false, false, false] rfl rfl (by kernel_rfl) (by decide) (fun K hK => ?_)
        rw [if_pos (by rfl)]
        go_simp
        (go_at_call 32; (with_reducible refine (HT2.out _ B1 d1 (KI_C HE.out.ry).2.2 (KI_C HE.out.ry).2.1 (KI_cap HE.out.ry)).mono ?_); rintro e wc2 ⟨B3, d3, rfl, ho, hb⟩; have K8 := Lib.hid (HE.out.out hb); clear HE; have HE := K8; clear K8; have HO4 := Lib.hid ho; have HO3b := Lib.hid (KI_out HO3.out hb); clear hb ho)
        refine hK.out _ _ (⟨HE.out.x, HE.out.y⟩) (fun hHeld => ?_)
        clear hK K
        try simp only [Act.put, List.setIfInBounds_toArray, List.set_cons_zero, List.set_cons_succ]
        refine one_ (i := 9) (N := some 55) (oi := ⟨some 55, Go.Op.call ⟨Go.Callee.value (Go.Operand.func 31), #[Go.Operand.tmp 52, Go.Operand.tmp 54], #[54, 54]⟩, 4, "outright.go:16", #[⟨6, Go.Ground.data⟩, ⟨8, Go.Ground.data⟩, ⟨8, Go.Ground.chain⟩, ⟨1, Go.Ground.guard⟩], some (1, true)⟩) #[true, true, true, true, true, true, true, true, true, true, false, false, false] rfl rfl (by kernel_rfl) (by decide) (fun K hK => ?_)
        rw [if_pos (by rfl)]
        go_simp
        (go_at_call 31; (with_reducible refine (HSm.out _ A3 B3 c3 d3 (KI_C HO3b.out).2.2 (KI_C HO4.out).2.2 (KI_C HO3b.out).2.1 (KI_C HO4.out).2.1 (KI_cap HO3b.out) (KI_cap HO4.out)).mono ?_); rintro e wd2 ⟨rfl, hb⟩; have K8 := Lib.hid (HE.out.out hb); clear HE; have HE := K8; clear K8; clear hb)
        refine hK.out _ _ (⟨HE.out.x, HE.out.y⟩) (fun hHeld => ?_)
        clear hK K
        try simp only [Act.put, List.setIfInBounds_toArray, List.set_cons_zero, List.set_cons_succ]
        refine pure_ (i := 10) (N := some 56) (v := ?_) (a' := ?_) #[true, true, true, true, true, true, true, true, true, true, true, false, false] rfl rfl (by kernel_rfl) (fun _ _ _ h => h) (Or.inl ⟨by rfl, ?_⟩) ?_ ?_
        rotate_left
        · intro w'
          go_simp
          (try with_reducible rfl)
        rotate_left
        · simp only [Act.put, List.setIfInBounds_toArray, List.set_cons_zero, List.set_cons_succ]
          rfl
        refine pure_ (i := 11) (N := some 57) (v := ?_) (a' := ?_) #[true, true, true, true, true, true, true, true, true, true, true, true, false] rfl rfl (by kernel_rfl) (fun _ _ _ h => h) (Or.inl ⟨by rfl, ?_⟩) ?_ ?_
        rotate_left
        · intro w'
          go_simp
          (try with_reducible rfl)
        rotate_left
        · simp only [Act.put, List.setIfInBounds_toArray, List.set_cons_zero, List.set_cons_succ]
          rfl
        refine pure_ (i := 12) (N := some 4) (v := ?_) (a' := ?_) #[true, true, true, true, true, true, true, true, true, true, true, true, true] rfl rfl (by kernel_rfl) (fun _ _ _ h => h) (Or.inl ⟨by rfl, ?_⟩) ?_ ?_
        rotate_left
        · intro w'
          go_simp
          (try with_reducible rfl)
        rotate_left
        · simp only [Act.put, List.setIfInBounds_toArray, List.set_cons_zero, List.set_cons_succ]
          rfl
        refine done_ (by kernel_rfl) ?_
        go_wp2_with fail
        go_ret
        exact ⟨rfl, HE.out.below⟩
      · have hb0 : sameB n m ts2 us2 s2 t2 = false := by
          cases hq : sameB n m ts2 us2 s2 t2
          · rfl
          · exact absurd (hxy.2 hq) hX
        rw [hb0] at HSm
        have hT := text_unlike hX
        have hT3 : decide (X = Y) = false := decide_eq_false hX
        clear hxy hb0 hX
        go_wp2_with (first
          | ((with_reducible refine gate_dst (N := 14) rfl ?_); refine wpList_load_part _ rfl (.tmp 2) 48 rfl g 0 (msgC n (.slice A1 ts2.length c1) s2) rfl aggMsg sizeMsg 48 _ HE.out.x ?_ ?_; (intro j v hv; rw [Nat.zero_add]; simpa using hv))
          | (go_at_call 29; (with_reducible refine (HW1.out _ A1 c1 (KI_C HE.out.rx).2.2 (KI_C HE.out.rx).2.1 (KI_cap HE.out.rx)).mono ?_); rintro e wf ⟨rfl, hb⟩; have K8 := Lib.hid (HE.out.out hb); clear HE; have HE := K8; clear K8; clear hb)
          | ((with_reducible refine gate_dst (N := 19) rfl ?_); refine wpList_load_part _ rfl (.tmp 3) 48 rfl h 0 (msgC m (.slice B1 us2.length d1) t2) rfl aggMsg sizeMsg 48 _ HE.out.y ?_ ?_; (intro j v hv; rw [Nat.zero_add]; simpa using hv))
          | (go_at_call 29; (with_reducible refine (HW2.out _ B1 d1 (KI_C HE.out.ry).2.2 (KI_C HE.out.ry).2.1 (KI_cap HE.out.ry)).mono ?_); rintro e wf ⟨rfl, hb⟩; have K8 := Lib.hid (HE.out.out hb); clear HE; have HE := K8; clear K8; clear hb)
          | fail)
        replace HE := Lib.hid (HE.out.out (Below.refl _ _).drew)
        refine start_ (n := 13) (S := fun W' => Blk W' g 48 (msgC n (.slice A1 ts2.length c1) s2) ∧ Blk W' h 48 (msgC m (.slice B1 us2.length d1) t2)) (ds := []) #[false, false, false, false, false, false, false, false, false, false, false, false, false] (by kernel_rfl) rfl rfl (⟨HE.out.x, HE.out.y⟩) (fun hHeld => ?_)
        refine one_ (i := 0) (N := some 46) (oi := ⟨some 46, Go.Op.call ⟨Go.Callee.value (Go.Operand.func 30), #[], #[]⟩, 4, "outright.go:16", #[], none⟩) #[true, false, false, false, false, false, false, false, false, false, false, false, false] rfl rfl (by kernel_rfl) (by decide) (fun K hK => ?_)
        rw [if_pos (by rfl)]
        go_simp
        (go_at_call 30; (with_reducible refine (awake5_any _ HE.out.gl).mono ?_); rintro e wa2 ⟨rfl, hb⟩; have K8 := Lib.hid (HE.out.out hb); clear HE; have HE := K8; clear K8; clear hb)
        refine hK.out _ _ (⟨HE.out.x, HE.out.y⟩) (fun hHeld => ?_)
        clear hK K
        try simp only [Act.put, List.setIfInBounds_toArray, List.set_cons_zero, List.set_cons_succ]
        refine pure_ (i := 1) (N := some 47) (v := ?_) (a' := ?_) #[true, true, false, false, false, false, false, false, false, false, false, false, false] rfl rfl (by kernel_rfl) (fun _ _ _ h => h) (Or.inl ⟨by rfl, ?_⟩) ?_ ?_
        rotate_left
        · intro w'
          go_simp
          (try with_reducible rfl)
        rotate_left
        · simp only [Act.put, List.setIfInBounds_toArray, List.set_cons_zero, List.set_cons_succ]
          rfl
        refine pure_ (i := 2) (N := some 48) (v := ?_) (a' := ?_) #[true, true, true, false, false, false, false, false, false, false, false, false, false] rfl rfl (by kernel_rfl) (fun _ _ _ h => h) (Or.inl ⟨by rfl, ?_⟩) ?_ ?_
        rotate_left
        · intro w'
          go_simp
          (try with_reducible rfl)
        rotate_left
        · simp only [Act.put, List.setIfInBounds_toArray, List.set_cons_zero, List.set_cons_succ]
          rfl
        refine pure_ (i := 3) (N := some 49) (v := ?_) (a' := ?_) #[true, true, true, true, false, false, false, false, false, false, false, false, false] rfl rfl (by kernel_rfl) (fun _ _ _ h => h) (Or.inl ⟨by rfl, ?_⟩) ?_ ?_
        rotate_left
        · intro w'
          go_simp
          (try with_reducible rfl)
        rotate_left
        · simp only [Act.put, List.setIfInBounds_toArray, List.set_cons_zero, List.set_cons_succ]
          rfl
        refine pure_ (i := 4) (N := some 50) (v := ?_) (a' := ?_) #[true, true, true, true, true, false, false, false, false, false, false, false, false] rfl rfl (by kernel_rfl) (fun _ _ _ h => h) (Or.inl ⟨by rfl, ?_⟩) ?_ ?_
        rotate_left
        · intro w'
          go_simp
          (try with_reducible rfl)
        rotate_left
        · simp only [Act.put, List.setIfInBounds_toArray, List.set_cons_zero, List.set_cons_succ]
          rfl
        refine take_ (i := 5) (N := some 51) (v := ?_) (a' := ?_) #[true, true, true, true, true, true, false, false, false, false, false, false, false] rfl rfl (by kernel_rfl) (fun _ _ _ h => h) (Or.inl ⟨by rfl, ?_⟩) hHeld ?_ ?_
        rotate_left
        · intro w' s0
          refine exec_load_part _ (.tmp 2) 48 ?_ g 0 (msgC n (.slice A1 ts2.length c1) s2) ?_ aggMsg sizeMsg 48 _ s0.1 ?_
          · rfl
          · rfl
          · intro j v hv
            rw [Nat.zero_add]
            simpa using hv
        rotate_left
        · simp only [Act.put, List.setIfInBounds_toArray, List.set_cons_zero, List.set_cons_succ]
          rfl
        refine take_ (i := 7) (N := some 53) (v := ?_) (a' := ?_) #[true, true, true, true, true, true, false, true, false, false, false, false, false] rfl rfl (by kernel_rfl) (fun _ _ _ h => h) (Or.inl ⟨by rfl, ?_⟩) hHeld ?_ ?_
        rotate_left
        · intro w' s0
          refine exec_load_part _ (.tmp 3) 48 ?_ h 0 (msgC m (.slice B1 us2.length d1) t2) ?_ aggMsg sizeMsg 48 _ s0.2 ?_
          · rfl
          · rfl
          · intro j v hv
            rw [Nat.zero_add]
            simpa using hv
        rotate_left
        · simp only [Act.put, List.setIfInBounds_toArray, List.set_cons_zero, List.set_cons_succ]
          rfl
        refine one_ (i := 6) (N := some 52) (oi := ⟨some 52, Go.Op.call ⟨Go.Callee.value (Go.Operand.func 32), #[Go.Operand.tmp 51], #[48]⟩, 54, "outright.go:16", #[⟨5, Go.Ground.data⟩, ⟨1, Go.Ground.chain⟩, ⟨1, Go.Ground.guard⟩], some (1, true)⟩) #[true, true, true, true, true, true, true, true, false, false, false, false, false] rfl rfl (by kernel_rfl) (by decide) (fun K hK => ?_)
        rw [if_pos (by rfl)]
        go_simp
        (go_at_call 32; (with_reducible refine (HT1.out _ A1 c1 (KI_C HE.out.rx).2.2 (KI_C HE.out.rx).2.1 (KI_cap HE.out.rx)).mono ?_); rintro e wb2 ⟨A3, c3, rfl, ho, hb⟩; have K8 := Lib.hid (HE.out.out hb); clear HE; have HE := K8; clear K8; have HO3 := Lib.hid ho; clear hb ho)
        refine hK.out _ _ (⟨HE.out.x, HE.out.y⟩) (fun hHeld => ?_)
        clear hK K
        try simp only [Act.put, List.setIfInBounds_toArray, List.set_cons_zero, List.set_cons_succ]
        refine one_ (i := 8) (N := some 54) (oi := ⟨some 54, Go.Op.call ⟨Go.Callee.value (Go.Operand.func 32), #[Go.Operand.tmp 53], #[48]⟩, 54, "outright.go:16", #[⟨7, Go.Ground.data⟩, ⟨6, Go.Ground.chain⟩, ⟨1, Go.Ground.guard⟩], some (1, true)⟩) #[true, true, true, true, true, true, true, true, true, false, false, false, false] rfl rfl (by kernel_rfl) (by decide) (fun K hK => ?_)
        rw [if_pos (by rfl)]
        go_simp
        (go_at_call 32; (with_reducible refine (HT2.out _ B1 d1 (KI_C HE.out.ry).2.2 (KI_C HE.out.ry).2.1 (KI_cap HE.out.ry)).mono ?_); rintro e wc2 ⟨B3, d3, rfl, ho, hb⟩; have K8 := Lib.hid (HE.out.out hb); clear HE; have HE := K8; clear K8; have HO4 := Lib.hid ho; have HO3b := Lib.hid (KI_out HO3.out hb); clear hb ho)
        refine hK.out _ _ (⟨HE.out.x, HE.out.y⟩) (fun hHeld => ?_)
        clear hK K
        try simp only [Act.put, List.setIfInBounds_toArray, List.set_cons_zero, List.set_cons_succ]
        refine one_ (i := 9) (N := some 55) (oi := ⟨some 55, Go.Op.call ⟨Go.Callee.value (Go.Operand.func 31), #[Go.Operand.tmp 52, Go.Operand.tmp 54], #[54, 54]⟩, 4, "outright.go:16", #[⟨6, Go.Ground.data⟩, ⟨8, Go.Ground.data⟩, ⟨8, Go.Ground.chain⟩, ⟨1, Go.Ground.guard⟩], some (1, true)⟩) #[true, true, true, true, true, true, true, true, true, true, false, false, false] rfl rfl (by kernel_rfl) (by decide) (fun K hK => ?_)
        rw [if_pos (by rfl)]
        go_simp
        (go_at_call 31; (with_reducible refine (HSm.out _ A3 B3 c3 d3 (KI_C HO3b.out).2.2 (KI_C HO4.out).2.2 (KI_C HO3b.out).2.1 (KI_C HO4.out).2.1 (KI_cap HO3b.out) (KI_cap HO4.out)).mono ?_); rintro e wd2 ⟨rfl, hb⟩; have K8 := Lib.hid (HE.out.out hb); clear HE; have HE := K8; clear K8; clear hb)
        refine hK.out _ _ (⟨HE.out.x, HE.out.y⟩) (fun hHeld => ?_)
        clear hK K
        try simp only [Act.put, List.setIfInBounds_toArray, List.set_cons_zero, List.set_cons_succ]
        refine pure_ (i := 10) (N := some 56) (v := ?_) (a' := ?_) #[true, true, true, true, true, true, true, true, true, true, true, false, false] rfl rfl (by kernel_rfl) (fun _ _ _ h => h) (Or.inl ⟨by rfl, ?_⟩) ?_ ?_
        rotate_left
        · intro w'
          go_simp
          (try with_reducible rfl)
        rotate_left
        · simp only [Act.put, List.setIfInBounds_toArray, List.set_cons_zero, List.set_cons_succ]
          rfl
        refine pure_ (i := 11) (N := some 57) (v := ?_) (a' := ?_) #[true, true, true, true, true, true, true, true, true, true, true, true, false] rfl rfl (by kernel_rfl) (fun _ _ _ h => h) (Or.inl ⟨by rfl, ?_⟩) ?_ ?_
        rotate_left
        · intro w'
          go_simp
          (try with_reducible rfl)
        rotate_left
        · simp only [Act.put, List.setIfInBounds_toArray, List.set_cons_zero, List.set_cons_succ]
          rfl
        refine pure_ (i := 12) (N := some 4) (v := ?_) (a' := ?_) #[true, true, true, true, true, true, true, true, true, true, true, true, true] rfl rfl (by kernel_rfl) (fun _ _ _ h => h) (Or.inl ⟨by rfl, ?_⟩) ?_ ?_
        rotate_left
        · intro w'
          go_simp
          (try with_reducible rfl)
        rotate_left
        · simp only [Act.put, List.setIfInBounds_toArray, List.set_cons_zero, List.set_cons_succ]
          rfl
        refine done_ (by kernel_rfl) ?_
        go_wp2_with fail
        go_ret
        exact ⟨rfl, HE.out.below⟩
theorem wapart_any (n m : Nat → Int) (A B : Option Addr) (c d : Nat) (ts us : List Int) (s t : ByteArray) (w : World) (hr : KI.C w A ts.length ts) (hu : KI.C w B us.length us) (hc : ts.length ≤ c) (hd : us.length ≤ d) (hcm : c ≤ 9223372036854775807) (hdm : d ≤ 9223372036854775807) (hg : Gl w) :
    Calls Tryd.prog 9 #[.agg (msgC n (.slice A ts.length c) s), .agg (msgC m (.slice B us.length d) t)] w fun e w' => e = .returned (.bool true) ∧ Below w.heap.size w w' := by
  have hl1 : (str (s.data.toList.take 1000)).size ≤ 1000 := by rw [str_size, List.length_take]; omega
  have hl2 : (str (t.data.toList.take 1000)).size ≤ 1000 := by rw [str_size, List.length_take]; omega
  obtain ⟨v, X, h1, h2⟩ := write_way n (ts.take 140) (str (s.data.toList.take 1000)) (by omega)
  obtain ⟨u, Y, h3, h4⟩ := write_way m (us.take 140) (str (t.data.toList.take 1000)) (by omega)
  refine wapart_in n m A B c d ts us _ _ s t _ _ X Y v u w hr hu hc hd hcm hdm hg (Lib.hid rfl) (Lib.hid rfl) (Lib.hid rfl) (Lib.hid rfl) (Lib.hid h2) (Lib.hid h4) ?_ ?_ (Lib.hid ?_)
  · rcases h1 with ⟨p, q, _, e1, e2⟩ | ⟨_, e, _⟩
    · exact .inl ⟨p, q, e1, e2⟩
    · exact .inr e
  · rcases h3 with ⟨p, q, _, e1, e2⟩ | ⟨_, e, _⟩
    · exact .inl ⟨p, q, e1, e2⟩
    · exact .inr e
  · intro hv hu2
    rcases h1 with ⟨p, q, _, e1, _⟩ | ⟨g1, _, e1⟩
    · rw [hv] at e1; cases e1
    rcases h3 with ⟨p, q, _, e3, _⟩ | ⟨g2, _, e3⟩
    · rw [hu2] at e3; cases e3
    rw [e1, e3]
    have z1 : (str (s.data.toList.take 1000)).data.toList.length = (str (s.data.toList.take 1000)).size := by rw [Array.length_toList]; rfl
    have z2 : (str (t.data.toList.take 1000)).data.toList.length = (str (t.data.toList.take 1000)).size := by rw [Array.length_toList]; rfl
    rw [← z1] at g1
    rw [← z2] at g2
    have m1 := msgL_length g1
    have m2 := msgL_length g2
    constructor
    · intro h
      obtain ⟨a1, a2, a3⟩ := msgL_inj g1 g2 (packL_inj (by omega) (by omega) (str_inj h))
      unfold sameB
      rw [(allEq_iff n m 10 0).2 (fun j _ hj => a1 j (by omega)), decide_eq_true a2, decide_eq_true (by rw [← str_of (str (s.data.toList.take 1000)), a3, str_of])]
      rfl
    · intro h
      unfold sameB at h
      simp only [Bool.and_eq_true, decide_eq_true_eq] at h
      obtain ⟨⟨a1, a2⟩, a3⟩ := h
      have a4 := (allEq_iff n m 10 0).1 a1
      rw [a2, a3, msgL_congr (fun j hj => a4 j (by omega) (by omega))]
end Go.Proofs.YtjlfoiocceepjaaDoor
