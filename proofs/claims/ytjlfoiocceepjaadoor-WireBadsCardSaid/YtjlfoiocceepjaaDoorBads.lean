/-
  WireBads, walked.
-/
import Derived.Test.YtjlfoiocceepjaaDoorAwk5
import Derived.Test.YtjlfoiocceepjaaDoorIs
import Derived.Test.YtjlfoiocceepjaaDoorFaults
namespace Go.Proofs.YtjlfoiocceepjaaDoor
open Go.RowKit Go.Extern.Stop Go.Stop Go.Extern Go.Proofs.YtjlfoiocceepjaaDoorW.PrintWords Go.Proofs.YtjlfoiocceepjaaDoorW.PrintLast Go.Proofs.YtjlfoiocceepjaaDoorW.PrintMore
set_option linter.unusedVariables false
set_option linter.unusedSimpArgs false

theorem m_error (a b : Value) (w : World) : (Go.method 246 41 (.agg #[a, b]) "Error").run Tryd.prog w = .ok (25, .agg #[a, b]) w := by kernel_rfl
theorem unwrap_b (q p e : Int) (w : World) : Calls Tryd.prog 39 #[.agg #[.int .i64 q, .iface 41 (.agg #[.int .i64 p, .int .i64 e])]] w fun ev w' => ev = .returned (.iface 41 (.agg #[.int .i64 p, .int .i64 e])) ∧ Below w.heap.size w w' := by
  go_enter Tryd.func39, Tryd.ntmps39
  go_wp2
  go_ret
  exact ⟨rfl, (Below.refl _ _).alloc (Nat.le_refl _) _⟩
set_option maxRecDepth 100000 in
theorem error_b (q p e : Int) (x y : ByteArray) (hx : x.size ≤ 100) (hy : (⟨#[109, 101, 115, 115, 97, 103, 101, 58, 32]⟩ : ByteArray) ++ x = y) (H : Hid (∀ V, Calls Tryd.prog 25 #[.agg #[.int .i64 p, .int .i64 e]] V fun ev w' => ev = .returned (.string x) ∧ Below V.heap.size V w')) (w : World) :
    Calls Tryd.prog 38 #[.agg #[.int .i64 q, .iface 41 (.agg #[.int .i64 p, .int .i64 e])]] w fun ev w' => ev = .returned (.string y) ∧ Below w.heap.size w w' := by
  have mE := m_error
  have HB := Lib.hid ((Below.refl w.heap.size w).alloc (Nat.le_refl _) (.cells #[.int .i64 q, .iface 41 (.agg #[.int .i64 p, .int .i64 e])] 69))
  go_enter Tryd.func38, Tryd.ntmps38
  go_wp2_with (first
    | (go_at_call 25; (with_reducible refine (H.out _).mono ?_); rintro ev w1 ⟨rfl, hb⟩; have HB1 := Lib.hid (HB.out.trans (hb.mono HB.out.size)); clear hb)
    | fail)
  go_ret
  exact ⟨rfl, HB1.out⟩
/-- the three errors in the memory -/
structure Bd (w W : World) (g7 g8 g9 : Nat) (q p e : Int) : Prop where
  b7 : Blk W g7 41 #[.int .i64 p, .int .i64 e]
  b8 : Blk W g8 69 #[.int .i64 q, .iface 41 (.agg #[.int .i64 p, .int .i64 e])]
  b9 : Blk W g9 69 #[.int .i64 q, .iface 33 (.int .i64 e)]
  gl : Gl W
  below : Below w.heap.size w W
theorem Bd.out {w W W' : World} {g7 g8 g9 : Nat} {q p e : Int} (h : Bd w W g7 g8 g9 q p e) (hb : Below W.heap.size W W') : Bd w W' g7 g8 g9 q p e :=
  ⟨h.b7.out hb, h.b8.out hb, h.b9.out hb, h.gl.out hb, h.below.trans (hb.mono h.below.size)⟩
theorem size41 : (Tryd.prog.info? 41).map (·.size) = some 2 := by kernel_rfl
theorem size69 : (Tryd.prog.info? 69).map (·.size) = some 2 := by kernel_rfl
theorem agg41 : AggTy Tryd.prog 41 := ⟨_, Tryd.underlying41, rfl⟩
set_option maxRecDepth 100000 in
set_option maxHeartbeats 8000000 in
theorem bads_any (q p e : Int) (w : World) (hg : Gl w) : Calls Tryd.prog 13 #[.int .i64 q, .int .i64 p, .int .i64 e] w fun ev w' => ev = .returned (.bool true) ∧ Below w.heap.size w w' := by
  obtain ⟨r, hr, hrs⟩ := name_some e
  obtain ⟨x, hx⟩ : ∃ x : ByteArray, x = (⟨#[102, 114, 97, 109, 101, 58, 32]⟩ : ByteArray) ++ r := ⟨_, rfl⟩
  have hxs : x.size ≤ 100 := by rw [hx, ByteArray.size_append]; have : (⟨#[102, 114, 97, 109, 101, 58, 32]⟩ : ByteArray).size = 7 := rfl; omega
  have HN := Lib.hid (fun V => PFrameFaults.api_Errno_Error.calls e r V hr)
  have HF : Hid (∀ V, Calls Tryd.prog 25 #[.agg #[.int .i64 p, .int .i64 e]] V fun ev w' => ev = .returned (.string x) ∧ Below V.heap.size V w') := Lib.hid (fun V => by
    rw [hx]
    exact PFrameFaults.frame_Fault_Error.calls p e ((⟨#[102, 114, 97, 109, 101, 58, 32]⟩ : ByteArray) ++ r) V (by unfold PFrameFaults.frame_Fault_Error.f; rw [hr]; simp only [Option.bind_some]; rw [if_pos (by omega)]))
  have hy : (⟨#[109, 101, 115, 115, 97, 103, 101, 58, 32]⟩ : ByteArray) ++ x = (⟨#[109, 101, 115, 115, 97, 103, 101, 58, 32, 102, 114, 97, 109, 101, 58, 32]⟩ : ByteArray) ++ r := by
    rw [hx]
    have e0 : r = str r.data.toList := (str_of r).symm
    have e1 : (⟨#[109, 101, 115, 115, 97, 103, 101, 58, 32]⟩ : ByteArray) = str [109, 101, 115, 115, 97, 103, 101, 58, 32] := rfl
    have e2 : (⟨#[102, 114, 97, 109, 101, 58, 32]⟩ : ByteArray) = str [102, 114, 97, 109, 101, 58, 32] := rfl
    have e3 : (⟨#[109, 101, 115, 115, 97, 103, 101, 58, 32, 102, 114, 97, 109, 101, 58, 32]⟩ : ByteArray) = str [109, 101, 115, 115, 97, 103, 101, 58, 32, 102, 114, 97, 109, 101, 58, 32] := rfl
    rw [e0, e1, e2, e3, str_append, str_append, str_append]
    rfl
  have HE := Lib.hid (fun V => error_b q p e x _ hxs hy HF V)
  have HG := Lib.hid hg
  have HB0 := Lib.hid (Below.refl w.heap.size w)
  have hee : (e == e) = true := beq_self_eq_true e
  have hu41 := Tryd.underlying41
  have hu69 := Tryd.underlying69
  clear hr hg hx hy
  go_enter Tryd.func13, Tryd.ntmps13
  go_wp2_with (first
    | ((with_reducible refine gate_dst (N := 7) rfl ?_); refine box_event rfl (N := 7) rfl (cs := #[.int .i64 0, .int .i64 0]) (t := 41) ?hr ?_; (case hr => first | (go_simp; done) | (go_simp; rfl)); intro g7 hg W7 hbox hb; have HL7 := Lib.hid (Nat.le_of_eq hg.symm); clear hg; have H7 := Lib.hid (show Blk W7 g7 41 #[.int .i64 0, .int .i64 0] from hbox); have HO7 := Lib.hid (HB0.out.trans (hb.mono HB0.out.size)); have HG7 := Lib.hid (HG.out.out hb); clear hb hbox)
    | (refine wpList_store_part _ rfl (.tmp 7) (.tmp 12) 41 rfl g7 0 #[.int .i64 p, .int .i64 e] rfl rfl size41 rfl 41 _ H7.out (Nat.le_refl _) #[.int .i64 p, .int .i64 e] rfl ?_; intro W7b hb4 hfr; have K7 := Lib.hid hb4; have KO7 := Lib.hid (HO7.out.trans (hfr.below HL7.out)); have KG7 := Lib.hid (HG7.out.below (hfr.below (Nat.le_refl _)) (Nat.lt_of_lt_of_le HG.out.pos HL7.out)); clear hb4 hfr)
    | ((with_reducible refine gate_dst (N := 14) rfl ?_); refine wpList_load_part _ rfl (.tmp 7) 41 rfl g7 0 #[.int .i64 p, .int .i64 e] rfl agg41 size41 41 _ K7.out ?_ ?_; (intro j v hv; rw [Nat.zero_add]; simpa using hv))
    | ((with_reducible refine gate_dst (N := 8) rfl ?_); refine box_event rfl (N := 8) rfl (cs := #[.int .i64 0, .nilIface]) (t := 69) ?hr ?_; (case hr => first | (go_simp; done) | (go_simp; rfl)); intro g8 hg W8 hbox hb; have HL8 := Lib.hid (show g7 < g8 by rw [hg]; exact K7.out.lt); clear hg; have H8 := Lib.hid (show Blk W8 g8 69 #[.int .i64 0, .nilIface] from hbox); have M7 := Lib.hid (K7.out.out hb); have HO8 := Lib.hid (KO7.out.trans (hb.mono KO7.out.size)); have HG8 := Lib.hid (KG7.out.out hb); clear hb hbox)
    | (refine wpList_store_part _ rfl (.tmp 8) (.tmp 16) 69 rfl g8 0 #[.int .i64 q, .iface 41 (.agg #[.int .i64 p, .int .i64 e])] rfl rfl size69 rfl 69 _ H8.out (Nat.le_refl _) #[.int .i64 q, .iface 41 (.agg #[.int .i64 p, .int .i64 e])] rfl ?_; intro W8b hb4 hfr; have K8 := Lib.hid hb4; have M7b := Lib.hid (M7.out.away hfr (Nat.ne_of_lt HL8.out)); have KO8 := Lib.hid (HO8.out.trans (hfr.below (Nat.le_trans HL7.out (Nat.le_of_lt HL8.out)))); have KG8 := Lib.hid (HG8.out.below (hfr.below (Nat.le_refl _)) (Nat.lt_of_lt_of_le HG.out.pos (Nat.le_trans HL7.out (Nat.le_of_lt HL8.out)))); clear hb4 hfr)
    | ((with_reducible refine gate_dst (N := 9) rfl ?_); refine box_event rfl (N := 9) rfl (cs := #[.int .i64 0, .nilIface]) (t := 69) ?hr ?_; (case hr => first | (go_simp; done) | (go_simp; rfl)); intro g9 hg W9 hbox hb; have HL9 := Lib.hid (show g8 < g9 by rw [hg]; exact K8.out.lt); clear hg; have H9 := Lib.hid (show Blk W9 g9 69 #[.int .i64 0, .nilIface] from hbox); have N7 := Lib.hid (M7b.out.out hb); have N8 := Lib.hid (K8.out.out hb); have HO9 := Lib.hid (KO8.out.trans (hb.mono KO8.out.size)); have HG9 := Lib.hid (KG8.out.out hb); clear hb hbox)
    | (refine wpList_store_part _ rfl (.tmp 9) (.tmp 20) 69 rfl g9 0 #[.int .i64 q, .iface 33 (.int .i64 e)] rfl rfl size69 rfl 69 _ H9.out (Nat.le_refl _) #[.int .i64 q, .iface 33 (.int .i64 e)] rfl ?_; intro W9b hb4 hfr; have hlo := Nat.le_trans HL7.out (Nat.le_of_lt (Nat.lt_trans HL8.out HL9.out)); have HS : Hid (Bd w W9b g7 g8 g9 q p e) := Lib.hid ⟨N7.out.away hfr (Nat.ne_of_lt (Nat.lt_trans HL8.out HL9.out)), N8.out.away hfr (Nat.ne_of_lt HL9.out), hb4, HG9.out.below (hfr.below (Nat.le_refl _)) (Nat.lt_of_lt_of_le HG.out.pos hlo), HO9.out.trans (hfr.below hlo)⟩; clear hb4 hfr hlo; have c70 := HS.out.b7.cell 0; have c71 := HS.out.b7.cell 1; have c80 := HS.out.b8.cell 0; have c81 := HS.out.b8.cell 1; have c90 := HS.out.b9.cell 0; have c91 := HS.out.b9.cell 1; simp at c70 c71 c80 c81 c90 c91)
    | (go_at_call 30; (with_reducible refine (awake5_any _ HS.out.gl).mono ?_); rintro ev wn ⟨rfl, hb⟩; have HS2 := Lib.hid (HS.out.out hb); clear HS c70 c71 c80 c81 c90 c91; have HS := HS2; clear HS2 hb; have c70 := HS.out.b7.cell 0; have c71 := HS.out.b7.cell 1; have c80 := HS.out.b8.cell 0; have c81 := HS.out.b8.cell 1; have c90 := HS.out.b9.cell 0; have c91 := HS.out.b9.cell 1; simp at c70 c71 c80 c81 c90 c91)
    | (go_at_call 36; (with_reducible refine (part_bf q p e _ HS.out.gl).mono ?_); rintro ev wn ⟨rfl, hb⟩; have HS2 := Lib.hid (HS.out.out hb); clear HS c70 c71 c80 c81 c90 c91; have HS := HS2; clear HS2 hb; have c70 := HS.out.b7.cell 0; have c71 := HS.out.b7.cell 1; have c80 := HS.out.b8.cell 0; have c81 := HS.out.b8.cell 1; have c90 := HS.out.b9.cell 0; have c91 := HS.out.b9.cell 1; simp at c70 c71 c80 c81 c90 c91)
    | (go_at_call 23; (with_reducible refine (place_bf q p e _ HS.out.gl).mono ?_); rintro ev wn ⟨rfl, hb⟩; have HS2 := Lib.hid (HS.out.out hb); clear HS c70 c71 c80 c81 c90 c91; have HS := HS2; clear HS2 hb; have c70 := HS.out.b7.cell 0; have c71 := HS.out.b7.cell 1; have c80 := HS.out.b8.cell 0; have c81 := HS.out.b8.cell 1; have c90 := HS.out.b9.cell 0; have c91 := HS.out.b9.cell 1; simp at c70 c71 c80 c81 c90 c91)
    | (go_at_call 22; (with_reducible refine (why_bf q p e _ HS.out.gl).mono ?_); rintro ev wn ⟨rfl, hb⟩; have HS2 := Lib.hid (HS.out.out hb); clear HS c70 c71 c80 c81 c90 c91; have HS := HS2; clear HS2 hb; have c70 := HS.out.b7.cell 0; have c71 := HS.out.b7.cell 1; have c80 := HS.out.b8.cell 0; have c81 := HS.out.b8.cell 1; have c90 := HS.out.b9.cell 0; have c91 := HS.out.b9.cell 1; simp at c70 c71 c80 c81 c90 c91)
    | (go_at_call 24; (with_reducible refine (is_bf q p e e _).mono ?_); rintro ev wn ⟨rfl, hb⟩; have HS2 := Lib.hid (HS.out.out hb); clear HS c70 c71 c80 c81 c90 c91; have HS := HS2; clear HS2 hb; have c70 := HS.out.b7.cell 0; have c71 := HS.out.b7.cell 1; have c80 := HS.out.b8.cell 0; have c81 := HS.out.b8.cell 1; have c90 := HS.out.b9.cell 0; have c91 := HS.out.b9.cell 1; simp at c70 c71 c80 c81 c90 c91)
    | (go_at_call 22; (with_reducible refine (why_be q e _ HS.out.gl).mono ?_); rintro ev wn ⟨rfl, hb⟩; have HS2 := Lib.hid (HS.out.out hb); clear HS c70 c71 c80 c81 c90 c91; have HS := HS2; clear HS2 hb; have c70 := HS.out.b7.cell 0; have c71 := HS.out.b7.cell 1; have c80 := HS.out.b8.cell 0; have c81 := HS.out.b8.cell 1; have c90 := HS.out.b9.cell 0; have c91 := HS.out.b9.cell 1; simp at c70 c71 c80 c81 c90 c91)
    | (go_at_call 23; (with_reducible refine (place_be q e _ HS.out.gl).mono ?_); rintro ev wn ⟨rfl, hb⟩; have HS2 := Lib.hid (HS.out.out hb); clear HS c70 c71 c80 c81 c90 c91; have HS := HS2; clear HS2 hb; have c70 := HS.out.b7.cell 0; have c71 := HS.out.b7.cell 1; have c80 := HS.out.b8.cell 0; have c81 := HS.out.b8.cell 1; have c90 := HS.out.b9.cell 0; have c91 := HS.out.b9.cell 1; simp at c70 c71 c80 c81 c90 c91)
    | (go_at_call 36; (with_reducible refine (part_f p e _ HS.out.gl).mono ?_); rintro ev wn ⟨rfl, hb⟩; have HS2 := Lib.hid (HS.out.out hb); clear HS c70 c71 c80 c81 c90 c91; have HS := HS2; clear HS2 hb; have c70 := HS.out.b7.cell 0; have c71 := HS.out.b7.cell 1; have c80 := HS.out.b8.cell 0; have c81 := HS.out.b8.cell 1; have c90 := HS.out.b9.cell 0; have c91 := HS.out.b9.cell 1; simp at c70 c71 c80 c81 c90 c91)
    | (go_at_call 36; (with_reducible refine (part_nil _ HS.out.gl).mono ?_); rintro ev wn ⟨rfl, hb⟩; have HS2 := Lib.hid (HS.out.out hb); clear HS c70 c71 c80 c81 c90 c91; have HS := HS2; clear HS2 hb; have c70 := HS.out.b7.cell 0; have c71 := HS.out.b7.cell 1; have c80 := HS.out.b8.cell 0; have c81 := HS.out.b8.cell 1; have c90 := HS.out.b9.cell 0; have c91 := HS.out.b9.cell 1; simp at c70 c71 c80 c81 c90 c91)
    | (go_at_call 38; (with_reducible refine (HE.out _).mono ?_); rintro ev wn ⟨rfl, hb⟩; have HS2 := Lib.hid (HS.out.out hb); clear HS c70 c71 c80 c81 c90 c91; have HS := HS2; clear HS2 hb; have c70 := HS.out.b7.cell 0; have c71 := HS.out.b7.cell 1; have c80 := HS.out.b8.cell 0; have c81 := HS.out.b8.cell 1; have c90 := HS.out.b9.cell 0; have c91 := HS.out.b9.cell 1; simp at c70 c71 c80 c81 c90 c91)
    | (go_at_call 26; (with_reducible refine (HN.out _).mono ?_); rintro ev wn ⟨rfl, hb⟩; have HS2 := Lib.hid (HS.out.out hb); clear HS c70 c71 c80 c81 c90 c91; have HS := HS2; clear HS2 hb; have c70 := HS.out.b7.cell 0; have c71 := HS.out.b7.cell 1; have c80 := HS.out.b8.cell 0; have c81 := HS.out.b8.cell 1; have c90 := HS.out.b9.cell 0; have c91 := HS.out.b9.cell 1; simp at c70 c71 c80 c81 c90 c91)
    | (go_at_call 39; (with_reducible refine (unwrap_b q p e _).mono ?_); rintro ev wn ⟨rfl, hb⟩; have HS2 := Lib.hid (HS.out.out hb); clear HS c70 c71 c80 c81 c90 c91; have HS := HS2; clear HS2 hb; have c70 := HS.out.b7.cell 0; have c71 := HS.out.b7.cell 1; have c80 := HS.out.b8.cell 0; have c81 := HS.out.b8.cell 1; have c90 := HS.out.b9.cell 0; have c91 := HS.out.b9.cell 1; simp at c70 c71 c80 c81 c90 c91)
    | (go_at_call 22; (with_reducible refine (why_f p e _ HS.out.gl).mono ?_); rintro ev wn ⟨rfl, hb⟩; have HS2 := Lib.hid (HS.out.out hb); clear HS c70 c71 c80 c81 c90 c91; have HS := HS2; clear HS2 hb; have c70 := HS.out.b7.cell 0; have c71 := HS.out.b7.cell 1; have c80 := HS.out.b8.cell 0; have c81 := HS.out.b8.cell 1; have c90 := HS.out.b9.cell 0; have c91 := HS.out.b9.cell 1; simp at c70 c71 c80 c81 c90 c91)
    | (go_at_call 23; (with_reducible refine (place_f p e _ HS.out.gl).mono ?_); rintro ev wn ⟨rfl, hb⟩; have HS2 := Lib.hid (HS.out.out hb); clear HS c70 c71 c80 c81 c90 c91; have HS := HS2; clear HS2 hb; have c70 := HS.out.b7.cell 0; have c71 := HS.out.b7.cell 1; have c80 := HS.out.b8.cell 0; have c81 := HS.out.b8.cell 1; have c90 := HS.out.b9.cell 0; have c91 := HS.out.b9.cell 1; simp at c70 c71 c80 c81 c90 c91)
    | fail)
  go_ret
  exact ⟨rfl, HS.out.below⟩
end Go.Proofs.YtjlfoiocceepjaaDoor
