/-
  TillerCarried, walked.
-/
import Derived.Test.YtjlfoiocceepjaaNetG
import Derived.Test.YtjlfoiocceepjaaOpenP
namespace Go.Proofs.Ytjlfoiocceepjaa
open Go.RowKit Go.Proofs.YtjlfoiocceepjaaW.PrintWords Go.Proofs.YtjlfoiocceepjaaW.PrintLast Go.Proofs.YtjlfoiocceepjaaW.PrintMore
set_option linter.unusedVariables false
set_option linter.unusedSimpArgs false

def n6 : Nat → Int := fun k => if k = 0 then 6 else 0
theorem n6_good : Good n6 [] 0 := ⟨by decide, by decide, (fun k hk => by unfold n6; split <;> omega), by decide, (fun t ht => by cases ht), by decide⟩
theorem n6_text : msgL n6 [] [] = [6, 0, 0, 0, 0, 0, 0, 0, 0, 0, 0, 0] := by decide +kernel
theorem thanks_write (V : World) : Calls Try.prog 13 #[.agg #[.int .i64 6, .int .i64 0, .int .i64 0, .int .i64 0, .int .i64 0, .int .i64 0, .int .i64 0, .int .i64 0, .int .i64 0, .int .i64 0, .slice none 0 0, .string ⟨#[]⟩]] V fun e w' => e = .returned (.tuple #[.string (str (packL [6, 0, 0, 0, 0, 0, 0, 0, 0, 0, 0, 0])), .nilIface]) ∧ Below V.heap.size V w' := by
  have h := write_ok n6 none 0 [] ⟨#[]⟩ V (Kd.C_nil _ _) (Nat.le_refl _) (by omega) n6_good
  have e : msgL n6 [] (⟨#[]⟩ : ByteArray).data.toList = [6, 0, 0, 0, 0, 0, 0, 0, 0, 0, 0, 0] := n6_text
  rw [e] at h
  exact h
/-- where the law stands: what was sent, what is on its way -/
structure St (w wr : World) (sv : Value) (g : Nat) (S : List Se) (l : List Pc) : Prop where
  sr : SR wr w.heap.size sv S
  net : NetI w.heap.size wr g l
  bel : Below w.heap.size w wr
  len : l.length ≤ S.length
  cnt : S.length ≤ 12
  ok : ∀ p, p ∈ l → PcOk S p
  gw : g < wr.heap.size
theorem St.out {w wr wr' : World} {sv : Value} {g : Nat} {S : List Se} {l : List Pc} (h : St w wr sv g S l) (hb : Below wr.heap.size wr wr') : St w wr' sv g S l :=
  ⟨h.sr.out hb, h.net.out hb, h.bel.trans (hb.mono h.bel.size), h.len, h.cnt, h.ok, Nat.lt_of_lt_of_le h.gw hb.size⟩
theorem St.step {w wr wr' : World} {sv : Value} {g : Nat} {S : List Se} {l l' : List Pc} (h : St w wr sv g S l) (hn : NetI w.heap.size wr' g l') (hs : NStep l l') (hE : Ef w.heap.size [54, 67] wr wr') : St w wr' sv g S l' :=
  ⟨h.sr.ef hE (by simp) (by simp), hn, h.bel.trans (hE.below (Nat.le_refl _) h.bel.size), Nat.le_trans hs.1 h.len, h.cnt, PcOk.step hs h.ok, Nat.lt_of_lt_of_le h.gw hE.size⟩
theorem St.size {w wr : World} {sv : Value} {g : Nat} {S : List Se} {l : List Pc} (h : St w wr sv g S l) : ∀ p, p ∈ l → p.fr.size ≤ 60000 := by
  intro p hp
  obtain ⟨e, he, _, h2, _⟩ := h.ok p hp
  have hg := (h.sr.2 e he).2.1
  have h3 := msgL_length (n := e.n) (ts := e.ts) (s := e.s.data.toList) (by rw [Array.length_toList]; exact hg)
  have h4 : p.fr.size = p.fr.data.toList.length := by rw [Array.length_toList]; rfl
  rw [h4, h2]
  unfold Se.fr
  rw [packL_length]
  omega
theorem info60 : (Try.prog.info? 60).map (fun i => (i.zero, i.size, i.bytes)) = some (some (.agg #[.int .i64 0, .int .i64 0, .int .i64 0, .int .i64 0, .int .i64 0, .int .i64 0, .int .i64 0, .int .i64 0, .int .i64 0, .int .i64 0, .slice none 0 0, .string ⟨#[]⟩]), 12, 120) := by kernel_rfl
theorem ses_one : ∀ (S : List Se) (v : Value), v ∈ ses S → v.oneCell' = true := by
  intro S v hv
  unfold ses at hv
  obtain ⟨e, _, he⟩ := List.mem_flatMap.1 hv
  simp only [Se.val, msgC, List.mem_cons, List.mem_nil_iff, or_false] at he
  rcases he with rfl | rfl | rfl | rfl | rfl | rfl | rfl | rfl | rfl | rfl | rfl | rfl <;> rfl
theorem SR.form {W : World} {B : Nat} {v : Value} {S : List Se} (h : SR W B v S) : ∃ A c, v = .slice A S.length c := by
  rcases h.1.2 with ⟨h1, h2⟩ | ⟨g, cap, cur, h1, _⟩
  · exact ⟨none, 0, by rw [h1, h2]⟩
  · exact ⟨_, cap, h1⟩
theorem SR.blk {W : World} {B : Nat} {v : Value} {S : List Se} (h : SR W B v S) (hl : 0 < S.length) : ∃ g c cur, v = .slice (some ⟨g, 0, none⟩) S.length c ∧ Blk W g 60 cur ∧ cur.toList.take (S.length * 12) = ses S := by
  rcases h.1.2 with ⟨h1, h2⟩ | ⟨g, cap, cur, h1, h2, h3, h4, h5, h6, h7⟩
  · omega
  · exact ⟨g, cap, cur, h1, h3, h7⟩
theorem ses_at {cur : Array Value} {S : List Se} (h : cur.toList.take (S.length * 12) = ses S) (i : Nat) (hi : i < S.length) : ∀ (j : Nat) (v : Value), (S[i].val).toList[j]? = some v → cur[i * 12 + j]? = some v := by
  intro j v hv
  have hj : j < 12 := by
    have := (List.getElem?_eq_some_iff.1 hv).1
    rwa [Se.val_len] at this
  have hd := ses_drop S i
  rw [List.drop_eq_getElem_cons hi] at hd
  have e : ses (S[i] :: S.drop (i + 1)) = S[i].val.toList ++ ses (S.drop (i + 1)) := rfl
  rw [e, ← h] at hd
  have h2 : (List.drop (i * 12) (List.take (S.length * 12) cur.toList))[j]? = cur[i * 12 + j]? := by
    rw [List.getElem?_drop, List.getElem?_take, if_pos (by omega), Array.getElem?_toList]
  rw [← h2, hd, List.getElem?_append_left (by rw [Se.val_len]; exact hj)]
  exact hv
/-- whether one of the first m is the message -/
def fnd (e : Se) (S : List Se) (m : Nat) : Bool := (S.take m).any fun x => sameB x.n e.n x.ts e.ts x.s e.s
theorem fnd_succ (e : Se) (S : List Se) (m : Nat) (h : m < S.length) : fnd e S (m + 1) = (fnd e S m || sameB S[m].n e.n S[m].ts e.ts S[m].s e.s) := by
  unfold fnd
  rw [List.take_succ_eq_append_getElem h, List.any_append]
  simp
theorem fnd_all (e : Se) (S : List Se) (h : e ∈ S) : fnd e S S.length = true := by
  unfold fnd
  rw [List.take_length]
  refine List.any_eq_true.2 ⟨e, h, ?_⟩
  unfold sameB
  have h1 : allEq e.n e.n 10 0 = true := (allEq_iff e.n e.n 10 0).2 fun _ _ _ => rfl
  simp [h1]
def zeroA : Array Value := #[.int .i64 0, .int .i64 0, .int .i64 0, .int .u32 0]
theorem aggAct : AggTy Try.prog 63 := ⟨_, Try.underlying63, rfl⟩
theorem sizeAct : (Try.prog.info? 63).map (·.size) = some 4 := by kernel_rfl
/-- one more message is sent -/
theorem St.sent {w wr w2 w3 w4 : World} {sv v1 : Value} {g : Nat} {S : List Se} {l : List Pc} (h : St w wr sv g S l) (e : Se) (h12 : S.length < 12) (hg : Good e.n e.ts e.s.size) (h140 : e.ts.length ≤ 140) (h1000 : e.s.size ≤ 1000)
    (hn : NetI w.heap.size w2 g (l ++ [⟨1, str e.fr, false⟩])) (hE : Ef w.heap.size [54, 67] wr w2) (hb : Below w2.heap.size w2 w3) (hk : KI.R 3 w3 w.heap.size All (.slice e.A e.ts.length e.c) e.ts)
    (hE2 : Ef w.heap.size [60] w3 w4) (ho : w4.ownsRow w.heap.size 60 12 v1 (S.length + 1) (ses S ++ e.val.toList)) : St w w4 v1 g (S ++ [e]) (l ++ [⟨1, str e.fr, false⟩]) := by
  have hs3 : w.heap.size ≤ w3.heap.size := Nat.le_trans h.bel.size (Nat.le_trans hE.size hb.size)
  refine ⟨⟨?_, ?_⟩, (hn.out hb).ef hE2 (by simp) (by simp), ((h.bel.trans (hE.below (Nat.le_refl _) h.bel.size)).trans (hb.mono (Nat.le_trans h.bel.size hE.size))).trans (hE2.below (Nat.le_refl _) hs3), by simp; exact h.len, by simp; omega, ?_, Nat.lt_of_lt_of_le h.gw (Nat.le_trans hE.size (Nat.le_trans hb.size hE2.size))⟩
  · rw [ses_append, List.length_append]
    have e1 : ses [e] = e.val.toList := by simp [ses]
    rw [e1]
    exact ho
  · intro x hx
    rcases List.mem_append.1 hx with hx | hx
    · have h1 := h.sr.2 x hx
      exact ⟨KI_ef (KI_out (KI_ef h1.1 hE (by simp)) hb) hE2 (by simp), h1.2⟩
    · rw [List.mem_singleton.1 hx]
      exact ⟨KI_ef hk hE2 (by simp), hg, h140, h1000⟩
  · intro p hp
    rcases List.mem_append.1 hp with hp | hp
    · exact (h.ok p hp).more e
    · rw [List.mem_singleton.1 hp]
      have e2 : (str e.fr).data.toList = e.fr := str_data _
      exact ⟨e, List.mem_append_right _ (List.mem_singleton.2 rfl), fun _ => e2, by rw [show (Pc.mk 1 (str e.fr) false).fr.data.toList = e.fr from e2]; exact ⟨rfl, 0, fun j hj => absurd rfl hj⟩⟩

set_option maxRecDepth 100000 in
set_option maxHeartbeats 16000000 in
theorem carried_any (a0 a1 : Option Addr) (N M c0 c1 : Nat) (w : World) (h0 : IsMsgs w a0 N) (h1 : IsActs w a1 M) (hN : N ≤ 9223372036854775807) (hM : M ≤ 9223372036854775807) :
    Calls Try.prog 4 #[.slice a0 N c0, .slice a1 M c1] w fun e w' => e = .returned (.bool true) ∧ Below w.heap.size w w' := by
  obtain ⟨S22, hS⟩ : ∃ S, S = str (packL [6, 0, 0, 0, 0, 0, 0, 0, 0, 0, 0, 0]) := ⟨_, rfl⟩
  have hS22 : S22.size = 22 := by rw [hS, str_size, packL_length]; rfl
  have HT := Lib.hid thanks_write
  rw [← hS] at HT
  have HM := Lib.hid h0
  have HA := Lib.hid h1
  have hu51 := Try.underlying51
  have hu54 := Try.underlying54
  have hu60 := Try.underlying60
  have hb0 : ∀ w : World, (Instr.buildSlice 55 0 #[]).run Try.prog w = .ok (.slice (some ⟨w.heap.size, 0, none⟩) 0 0) (w.alloc (.cells #[] 60)) := fun w => by kernel_rfl
  have HBe := Lib.hid (Below.refl w.heap.size w)
  clear h0 h1 hS
  go_enter Try.func4, Try.ntmps4
  go_wp2_with (first
    | (go_at_call 13; (with_reducible refine (HT.out _).mono ?_); rintro e W1 ⟨rfl, hb⟩; have HB1 := Lib.hid (HBe.out.trans (hb.mono HBe.out.size)); clear hb)
    | ((with_reducible refine gate_dst (N := 7) rfl ?_); refine box_event rfl (N := 7) rfl (cs := #[.slice none 0 0, .int .i64 0]) (t := 54) ?hr ?_; (case hr => first | (go_simp; done) | (go_simp; rfl)); intro g hg W2 hbox hb; have HGw := Lib.hid (show w.heap.size ≤ g by rw [hg]; exact HB1.out.size); clear hg; have HN2 := Lib.hid (show Blk W2 g 54 _ from hbox); have HB2 := Lib.hid (HB1.out.trans (hb.mono HB1.out.size)); clear hb hbox)
    | fail)
  have HS0 : Hid (St w (W2.alloc (.cells #[] 60)) (.slice (some ⟨W2.heap.size, 0, none⟩) 0 0) g [] []) := Lib.hid (by
    have hb := (Below.refl _ W2).alloc (Nat.le_refl _) (.cells #[] 60)
    refine ⟨⟨?_, (fun e he => by cases he)⟩, ⟨⟨none, 0, 0, HN2.out.alloc _, PR.nil _ _⟩, HGw.out⟩, HB2.out.trans (hb.mono HB2.out.size), Nat.le_refl _, by simp, (fun p hp => by cases hp), (HN2.out.alloc _).lt⟩
    have h := World.ownsRow_made W2 (e := 60) (size := 12) #[] 0 (Nat.le_refl _) (Nat.zero_le _) (by simp)
    refine ⟨rfl, ?_⟩
    rcases h.2 with h1 | ⟨g', cap, cur, h1, h2, h3⟩
    · exact .inl h1
    · exact .inr ⟨g', cap, cur, h1, Nat.le_trans HB2.out.size h2, h3⟩)
  clear HN2 HB2 HB1 HBe HT hS22
  generalize W2.alloc (.cells #[] 60) = w5 at *
  generalize W2.heap.size = sb at *
  go_loopw [8, 9] (fun sv iv wr => ∃ (i : Nat) (S : List Se) (l : List Pc), i ≤ 12 ∧ S.length ≤ i ∧ iv = .int .i64 (i : Int) ∧ Hid (St w wr sv g S l)) (fun _ iv _ => 12 - (intOf iv).toNat)
  case atStart => exact ⟨0, [], [], by omega, Nat.le_refl _, rfl, HS0⟩
  case round =>
    clear HS0
    obtain ⟨i, S, l, hi, hSi, rfl, H⟩ := hrel
    by_cases hiN : i < N ∧ i < 12
    · obtain ⟨h1, h2⟩ := hiN
      obtain ⟨b, o, ha, hbw, hcell⟩ := HM.out.resolve_left (by omega)
      subst ha
      obtain ⟨n, A, c, ts, s, hc, hcl, hcm, hK⟩ := hcell i h1
      have HCell : Hid (∀ V, Below w.heap.size w V → ∀ j v, (msgC n (.slice A ts.length c) s).toList[j]? = some v → V.cell? ⟨b, o + i * 12 + j, none⟩ = some v) := Lib.hid fun V hV j v hv => by
        have h3 := hc j v hv
        have h4 := World.block_lt_of_cell? w _ h3
        exact (hV.cell h4).trans h3
      obtain ⟨ts2, hts2⟩ : ∃ ts2, ts2 = ts.take 140 := ⟨_, rfl⟩
      obtain ⟨s2, hs2⟩ : ∃ s2, s2 = str (s.data.toList.take 1000) := ⟨_, rfl⟩
      have HF : Hid (∀ V, Below w.heap.size w V → Calls Try.prog 14 #[.agg (msgC n (.slice A ts.length c) s)] V fun e w' => ∃ (A' : Option Addr) (c' : Nat), e = .returned (.agg (msgC n (.slice A' ts2.length c') s2)) ∧ KI.R 3 w' V.heap.size All (.slice A' ts2.length c') ts2 ∧ Below V.heap.size V w') := Lib.hid fun V hV => by rw [hts2, hs2]; exact few15_any n A c ts s V (Kd.C_below hK hV) hcl hcm
      have h140 : ts2.length ≤ 140 := by rw [hts2, List.length_take]; omega
      have h1000 : s2.size ≤ 1000 := by rw [hs2, str_size, List.length_take]; omega
      have ht2 : ts2.take 140 = ts2 := List.take_of_length_le h140
      have hs3 : str (s2.data.toList.take 1000) = s2 := by
        rw [List.take_of_length_le (by rw [Array.length_toList]; exact h1000)]
        simp [str]
      have hiI : (i : Int) < (N : Int) := by omega
      have hi12 : (i : Int) < 12 := by omega
      have HL1 := Lib.hid (And.intro h140 h1000)
      by_cases hgd : (chk n ts2 s2.size).2 = 0
      · obtain ⟨hgood, _⟩ := good_of_chk hgd
        obtain ⟨F, hF⟩ : ∃ F, F = str (packL (msgL n ts2 s2.data.toList)) := ⟨_, rfl⟩
        have HW : Hid (∀ V A c, KI.C V A ts2.length ts2 → ts2.length ≤ c → c ≤ 9223372036854775807 → Calls Try.prog 13 #[.agg (msgC n (.slice A ts2.length c) s2)] V fun e w' => e = .returned (.tuple #[.string F, .nilIface]) ∧ Below V.heap.size V w') := Lib.hid fun V A c hr h3 h4 => by rw [hF]; exact write_ok n A c ts2 s2 V hr h3 h4 hgood
        have HTo : Hid (∀ V A c, KI.C V A ts2.length ts2 → ts2.length ≤ c → c ≤ 9223372036854775807 → Calls Try.prog 16 #[.agg (msgC n (.slice A ts2.length c) s2)] V fun e w' => ∃ (A' : Option Addr) (c' : Nat), e = .returned (.agg (msgC n (.slice A' ts2.length c') s2)) ∧ KI.R 3 w' V.heap.size All (.slice A' ts2.length c') ts2 ∧ Below V.heap.size V w') := Lib.hid fun V A c hr h3 h4 => by
          have := told_any n A c ts2 s2 V hr h3 h4
          rw [ht2, hs3] at this
          exact this
        have hFs : F.size ≤ 65536 := by
          have h3 := msgL_length (n := n) (ts := ts2) (s := s2.data.toList) (by rw [Array.length_toList]; exact hgood)
          rw [hF, str_size, packL_length]
          omega
        have HSe : Hid (∀ V, NetI w.heap.size V g l → Calls Try.prog 15 #[.pointer (some ⟨g, 0, none⟩), .int .i64 1, .string F] V fun e w' => e = .returned (.int .i64 0) ∧ NetI w.heap.size w' g (l ++ [⟨1, F, false⟩]) ∧ Ef w.heap.size [54, 67] V w') := Lib.hid fun V hV => send_ok _ V g l F hV (by have h5 := H.out.len; have h6 := H.out.cnt; omega) hFs
        obtain ⟨i0, hI, hzz⟩ := Option.map_eq_some_iff.1 info60
        simp only [Prod.mk.injEq] at hzz
        obtain ⟨hz0, hz1, hz2⟩ := hzz
        have HI := Lib.hid (And.intro hI (And.intro hz0 (And.intro hz1 hz2)))
        have HGd := Lib.hid (And.intro hgood hF)
        have HC12 := Lib.hid (show S.length < 12 by omega)
        have HSs := Lib.hid (show S.length ≤ i from hSi)
        have hS12 : S.length ≤ 11 := by omega
        clear hF hgood hgd hI hz0 hz1 hz2 hc hcell hK hts2 hs2 ht2 hs3 h140 h1000
        go_wp2_with (first
          | ((with_reducible refine gate_dst (N := 48) rfl ?_); refine wpList_load_cells rfl (.tmp 47) 51 rfl b (o + i * 12) (msgC n (.slice A ts.length c) s) (by simp [Act.eval]) aggMsg sizeMsg (fun j v hv => HCell.out _ H.out.bel j v hv) ?_)
          | (go_at_call 14; (with_reducible refine (HF.out _ H.out.bel).mono ?_); rintro e W3 ⟨A1, cA, rfl, ho, hb⟩; have H3 := Lib.hid (H.out.out hb); have HO3 := Lib.hid ho; have HS3 := Lib.hid (H.out.bel.size); clear hb ho)
          | ((with_reducible refine gate_dst (N := 10) rfl ?_); refine box_event rfl (N := 10) rfl (cs := zeroC) (t := 51) ?hr ?_; (case hr => first | (go_simp; done) | (go_simp; rfl)); intro q hq W4 hbox hb; have HX := Lib.hid (show Blk W4 q 51 zeroC from hbox); have HQw := Lib.hid (show w.heap.size ≤ q by rw [hq]; exact (H3.out.bel.size)); have HQ3 := Lib.hid (Nat.le_of_eq hq.symm); clear hq; have H4 := Lib.hid (H3.out.out hb); have HO4 := Lib.hid (KI_out HO3.out hb); have HB34 := Lib.hid hb; clear hb hbox)
          | (refine wpList_store_part _ rfl (.tmp 10) (.tmp 49) 51 rfl q 0 (msgC n (.slice A1 ts2.length cA) s2) rfl rfl sizeMsg rfl 51 _ HX.out (Nat.le_refl _) (msgC n (.slice A1 ts2.length cA) s2) rfl ?_; intro W5 hb5 hfr; have HX5 := Lib.hid hb5; have H5 := Lib.hid (H3.out.out (HB34.out.trans (hfr.below HQ3.out))); have HO5 := Lib.hid (KI_out HO3.out (HB34.out.trans (hfr.below HQ3.out))); clear hb5 hfr)
          | ((with_reducible refine gate_dst (N := 51) rfl ?_); refine wpList_load_part _ rfl (.tmp 10) 51 rfl q 0 (msgC n (.slice A1 ts2.length cA) s2) rfl aggMsg sizeMsg 51 _ HX5.out ?_ ?_; (intro j v hv; rw [Nat.zero_add]; simpa using hv))
          | (go_at_call 13; (with_reducible refine (HW.out _ _ _ (KI_C HO5.out).2.2 (KI_C HO5.out).2.1 (KI_cap HO5.out)).mono ?_); rintro e W6 ⟨rfl, hb⟩; have H6 := Lib.hid (H5.out.out hb); have HO6 := Lib.hid (KI_out HO5.out hb); have HX6 := Lib.hid (HX5.out.out hb); clear hb)
          | (go_at_call 15; (with_reducible refine (HSe.out _ H6.out.net).mono ?_); rintro e W7 ⟨rfl, hn, hE⟩; have HN7 := Lib.hid hn; have HE7 := Lib.hid hE; have HO7 := Lib.hid (KI_ef HO6.out hE (by simp)); have HX7 := Lib.hid (HX6.out.ef hE (by simp)); clear hn hE)
          | ((with_reducible refine gate_dst (N := 61) rfl ?_); refine wpList_load_part _ rfl (.tmp 10) 51 rfl q 0 (msgC n (.slice A1 ts2.length cA) s2) rfl aggMsg sizeMsg 51 _ HX7.out ?_ ?_; (intro j v hv; rw [Nat.zero_add]; simpa using hv))
          | (go_at_call 16; (with_reducible refine (HTo.out _ _ _ (KI_C HO7.out).2.2 (KI_C HO7.out).2.1 (KI_cap HO7.out)).mono ?_); rintro e W8 ⟨A2, cB, rfl, ho, hb⟩; have HB8 := Lib.hid hb; have HO8 := Lib.hid ho; have HR8 := Lib.hid (((H6.out.sr.ef HE7.out (by simp) (by simp)).out hb).1); have HL8 := Lib.hid (Nat.le_trans H6.out.bel.size (Nat.le_trans HE7.out.size hb.size)); clear hb ho; unfold msgC)
          | (at_builtin; refine wpList_append_own _ rfl _ _ 55 rfl w.heap.size 60 i0 _ 12 120 Try.underlying55 HI.out.1 HI.out.2.1 HI.out.2.2.1 HI.out.2.2.2 rfl (by omega) _ S.length (ses S) rfl (World.ownsRow.alloc HR8.out _) ⟨W8.heap.size, 0, none⟩ 1 1 (Se.val ⟨n, ts2, s2, A2, cB⟩).toList rfl rfl ?q2 ?q3 ?q4 ?q5 ?q6 ?_; (case q2 => intro j u hj; have := (Blk.new W8 60 (Se.val ⟨n, ts2, s2, A2, cB⟩) _ rfl).cell j; rw [add_plain]; exact this.trans (by simpa using hj)); (case q3 => intro u hu; exact ses_one [⟨n, ts2, s2, A2, cB⟩] u (by simpa [ses] using hu)); (case q4 => unfold maxLen; omega); (case q5 => omega); (case q6 => simp; have := HL8.out; omega); intro v1 w1 hown hgrow _; have HE9 : Hid (Ef w.heap.size [60] W8 w1) := Lib.hid ((Ef.of_below ((Below.refl _ W8).alloc (Nat.le_refl _) _)).trans (Ef.grown (World.ownsRow.alloc HR8.out _) (by simp) hgrow)); have HO9 := Lib.hid hown; clear hown hgrow)
          | fail)
        go_roundw
        case rel =>
          have hf : F = str (Se.fr ⟨n, ts2, s2, A2, cB⟩) := HGd.out.2
          refine ⟨i + 1, S ++ [⟨n, ts2, s2, A2, cB⟩], l ++ [⟨1, F, false⟩], by omega, by simp; exact hSi, by go_num, Lib.hid ?_⟩
          have hn := HN7.out
          rw [hf] at hn ⊢
          exact H6.out.sent ⟨n, ts2, s2, A2, cB⟩ HC12.out HGd.out.1 HL1.out.1 HL1.out.2 hn HE7.out HB8.out (Kd.R_lower HO8.out (Nat.le_trans H6.out.bel.size HE7.out.size)) HE9.out HO9.out
        case measure => simp [intOf]; omega
      · obtain ⟨pp, qq, hpq⟩ : ∃ pp qq, chk n ts2 s2.size = (pp, qq) := ⟨_, _, rfl⟩
        have hq0 : qq ≠ 0 := by rw [hpq] at hgd; exact hgd
        have HW : Hid (∀ V A c, KI.C V A ts2.length ts2 → ts2.length ≤ c → c ≤ 9223372036854775807 → Calls Try.prog 13 #[.agg (msgC n (.slice A ts2.length c) s2)] V fun e w' => e = .returned (.tuple #[.string ⟨#[]⟩, .iface 91 (.agg #[.int .i64 pp, .iface 37 (.int .i64 qq)])]) ∧ Below V.heap.size V w') := Lib.hid fun V A c hr h3 h4 => write_bad n A c ts2 s2 V hr h3 h4 (by omega) pp qq hq0 hpq
        clear hgd hpq hc hcell hK hts2 hs2 ht2 hs3 h140 h1000
        go_wp2_with (first
          | ((with_reducible refine gate_dst (N := 48) rfl ?_); refine wpList_load_cells rfl (.tmp 47) 51 rfl b (o + i * 12) (msgC n (.slice A ts.length c) s) (by simp [Act.eval]) aggMsg sizeMsg (fun j v hv => HCell.out _ H.out.bel j v hv) ?_)
          | (go_at_call 14; (with_reducible refine (HF.out _ H.out.bel).mono ?_); rintro e W3 ⟨A1, cA, rfl, ho, hb⟩; have H3 := Lib.hid (H.out.out hb); have HO3 := Lib.hid ho; have HS3 := Lib.hid (H.out.bel.size); clear hb ho)
          | ((with_reducible refine gate_dst (N := 10) rfl ?_); refine box_event rfl (N := 10) rfl (cs := zeroC) (t := 51) ?hr ?_; (case hr => first | (go_simp; done) | (go_simp; rfl)); intro q hq W4 hbox hb; have HX := Lib.hid (show Blk W4 q 51 zeroC from hbox); have HQw := Lib.hid (show w.heap.size ≤ q by rw [hq]; exact (H3.out.bel.size)); have HQ3 := Lib.hid (Nat.le_of_eq hq.symm); clear hq; have H4 := Lib.hid (H3.out.out hb); have HO4 := Lib.hid (KI_out HO3.out hb); have HB34 := Lib.hid hb; clear hb hbox)
          | (refine wpList_store_part _ rfl (.tmp 10) (.tmp 49) 51 rfl q 0 (msgC n (.slice A1 ts2.length cA) s2) rfl rfl sizeMsg rfl 51 _ HX.out (Nat.le_refl _) (msgC n (.slice A1 ts2.length cA) s2) rfl ?_; intro W5 hb5 hfr; have HX5 := Lib.hid hb5; have H5 := Lib.hid (H3.out.out (HB34.out.trans (hfr.below HQ3.out))); have HO5 := Lib.hid (KI_out HO3.out (HB34.out.trans (hfr.below HQ3.out))); clear hb5 hfr)
          | ((with_reducible refine gate_dst (N := 51) rfl ?_); refine wpList_load_part _ rfl (.tmp 10) 51 rfl q 0 (msgC n (.slice A1 ts2.length cA) s2) rfl aggMsg sizeMsg 51 _ HX5.out ?_ ?_; (intro j v hv; rw [Nat.zero_add]; simpa using hv))
          | (go_at_call 13; (with_reducible refine (HW.out _ _ _ (KI_C HO5.out).2.2 (KI_C HO5.out).2.1 (KI_cap HO5.out)).mono ?_); rintro e W6 ⟨rfl, hb⟩; have H6 := Lib.hid (H5.out.out hb); clear hb)
          | fail)
        go_roundw
        case rel => exact ⟨i + 1, S, l, by omega, by omega, by go_num, H6⟩
        case measure => simp [intOf]; omega
    · have hend : ¬ ((i : Int) < (N : Int)) ∨ ((i : Int) < (N : Int) ∧ ¬ ((i : Int) < 12)) := by omega
      obtain ⟨As, cs, hsv⟩ := H.out.sr.form
      subst hsv
      have hS12 : S.length ≤ 12 := H.out.cnt
      rcases hend with hend | ⟨hend, hend2⟩
      all_goals
        go_wp2_with fail
        clear hiN hi hSi
        go_loopw [13] (fun jv wq => ∃ (j : Nat) (l : List Pc), j ≤ 30 ∧ jv = .int .i64 (j : Int) ∧ Hid (St w wq (.slice As S.length cs) g S l)) (fun jv _ => 30 - (intOf jv).toNat)
        case atStart => exact ⟨0, l, by omega, rfl, H⟩
        case round =>
          clear H
          obtain ⟨j, l, hj, rfl, H⟩ := hrel
          by_cases hjM : j < M ∧ j < 30
          · obtain ⟨h1, h2⟩ := hjM
            obtain ⟨b, o, ha, hbw, hcell⟩ := HA.out.resolve_left (by omega)
            subst ha
            obtain ⟨k, xx, yy, qb, hqb, hc⟩ := hcell j h1
            have HCell : Hid (∀ V, Below w.heap.size w V → ∀ jj v, (actA k xx yy qb).toList[jj]? = some v → V.cell? ⟨b, o + j * 4 + jj, none⟩ = some v) := Lib.hid fun V hV jj v hv => by
              have h3 := hc jj v hv
              have h4 := World.block_lt_of_cell? w _ h3
              exact (hV.cell h4).trans h3
            have hjI : (j : Int) < (M : Int) := by omega
            have hj30 : (j : Int) < 30 := by omega
            have hl12 := H.out.len
            clear hc hcell
            by_cases hk1 : k = 1
            · subst hk1
              have HC := Lib.hid fun V (hV : NetI w.heap.size V g l) (hg : g < V.heap.size) => lose_any _ V g l xx hV (by omega) hg
              go_wp2_with (first
                | ((with_reducible refine gate_dst (N := 78) rfl ?_); refine wpList_load_cells rfl (.tmp 77) 63 rfl b (o + j * 4) (actA 1 xx yy qb) (by simp [Act.eval]) aggAct sizeAct (fun jj v hv => HCell.out _ H.out.bel jj v hv) ?_)
                | ((with_reducible refine gate_dst (N := 14) rfl ?_); refine box_event rfl (N := 14) rfl (cs := zeroA) (t := 63) ?hr ?_; (case hr => first | (go_simp; done) | (go_simp; rfl)); intro q14 hq W2 hbox hb; have HX2 := Lib.hid (show Blk W2 q14 63 zeroA from hbox); have HQ14 := Lib.hid (Nat.le_of_eq hq.symm); clear hq; have HB2 := Lib.hid hb; clear hb hbox)
                | (refine wpList_store_part _ rfl (.tmp 14) (.tmp 78) 63 rfl q14 0 (actA 1 xx yy qb) rfl rfl sizeAct rfl 63 _ HX2.out (Nat.le_refl _) (actA 1 xx yy qb) rfl ?_; intro W3 hb5 hfr; have e0 : W3.cell? ⟨q14, 0, none⟩ = some (.int .i64 1) := hb5.cell 0; have e1 : W3.cell? ⟨q14, 1, none⟩ = some (.int .i64 xx) := hb5.cell 1; have e2 : W3.cell? ⟨q14, 2, none⟩ = some (.int .i64 yy) := hb5.cell 2; have e3 : W3.cell? ⟨q14, 3, none⟩ = some (.int .u32 (qb : Int)) := hb5.cell 3; have H3 := Lib.hid (H.out.out (HB2.out.trans (hfr.below HQ14.out))); clear hb5 hfr)
                | (go_at_call 17; (with_reducible refine (HC.out _ H3.out.net H3.out.gw).mono ?_); rintro e W4 ⟨⟨v, rfl⟩, l', hn, hs, hE⟩; have H4 := Lib.hid (H3.out.step hn hs hE); clear hn hs hE e0 e1 e2 e3)
                | fail)
              go_roundw
              case rel => exact ⟨j + 1, l', by omega, by go_num, H4⟩
              case measure => simp [intOf]; omega
            by_cases hk2 : k = 2
            · subst hk2
              have HC := Lib.hid fun V (hV : NetI w.heap.size V g l) (hg : g < V.heap.size) => move_any _ V g l xx hV (by omega) hg
              go_wp2_with (first
                | ((with_reducible refine gate_dst (N := 78) rfl ?_); refine wpList_load_cells rfl (.tmp 77) 63 rfl b (o + j * 4) (actA 2 xx yy qb) (by simp [Act.eval]) aggAct sizeAct (fun jj v hv => HCell.out _ H.out.bel jj v hv) ?_)
                | ((with_reducible refine gate_dst (N := 14) rfl ?_); refine box_event rfl (N := 14) rfl (cs := zeroA) (t := 63) ?hr ?_; (case hr => first | (go_simp; done) | (go_simp; rfl)); intro q14 hq W2 hbox hb; have HX2 := Lib.hid (show Blk W2 q14 63 zeroA from hbox); have HQ14 := Lib.hid (Nat.le_of_eq hq.symm); clear hq; have HB2 := Lib.hid hb; clear hb hbox)
                | (refine wpList_store_part _ rfl (.tmp 14) (.tmp 78) 63 rfl q14 0 (actA 2 xx yy qb) rfl rfl sizeAct rfl 63 _ HX2.out (Nat.le_refl _) (actA 2 xx yy qb) rfl ?_; intro W3 hb5 hfr; have e0 : W3.cell? ⟨q14, 0, none⟩ = some (.int .i64 2) := hb5.cell 0; have e1 : W3.cell? ⟨q14, 1, none⟩ = some (.int .i64 xx) := hb5.cell 1; have e2 : W3.cell? ⟨q14, 2, none⟩ = some (.int .i64 yy) := hb5.cell 2; have e3 : W3.cell? ⟨q14, 3, none⟩ = some (.int .u32 (qb : Int)) := hb5.cell 3; have H3 := Lib.hid (H.out.out (HB2.out.trans (hfr.below HQ14.out))); clear hb5 hfr)
                | (go_at_call 18; (with_reducible refine (HC.out _ H3.out.net H3.out.gw).mono ?_); rintro e W4 ⟨⟨v, rfl⟩, l', hn, hs, hE⟩; have H4 := Lib.hid (H3.out.step hn hs hE); clear hn hs hE e0 e1 e2 e3)
                | fail)
              go_roundw
              case rel => exact ⟨j + 1, l', by omega, by go_num, H4⟩
              case measure => simp [intOf]; omega
            have bk1 : (k == 1) = false := beq_eq_false_iff_ne.2 hk1
            have bk2 : (k == 2) = false := beq_eq_false_iff_ne.2 hk2
            by_cases hk3 : k = 3
            · subst hk3
              clear hk1 hk2 bk1 bk2
              have hsz := H.out.size
              have HC := Lib.hid fun V (hV : NetI w.heap.size V g l) (hg : g < V.heap.size) => turn_any _ V g l xx yy qb hqb hV (by omega) (fun p hp => by have := hsz p hp; omega)
              clear hsz
              go_wp2_with (first
                | ((with_reducible refine gate_dst (N := 78) rfl ?_); refine wpList_load_cells rfl (.tmp 77) 63 rfl b (o + j * 4) (actA 3 xx yy qb) (by simp [Act.eval]) aggAct sizeAct (fun jj v hv => HCell.out _ H.out.bel jj v hv) ?_)
                | ((with_reducible refine gate_dst (N := 14) rfl ?_); refine box_event rfl (N := 14) rfl (cs := zeroA) (t := 63) ?hr ?_; (case hr => first | (go_simp; done) | (go_simp; rfl)); intro q14 hq W2 hbox hb; have HX2 := Lib.hid (show Blk W2 q14 63 zeroA from hbox); have HQ14 := Lib.hid (Nat.le_of_eq hq.symm); clear hq; have HB2 := Lib.hid hb; clear hb hbox)
                | (refine wpList_store_part _ rfl (.tmp 14) (.tmp 78) 63 rfl q14 0 (actA 3 xx yy qb) rfl rfl sizeAct rfl 63 _ HX2.out (Nat.le_refl _) (actA 3 xx yy qb) rfl ?_; intro W3 hb5 hfr; have e0 : W3.cell? ⟨q14, 0, none⟩ = some (.int .i64 3) := hb5.cell 0; have e1 : W3.cell? ⟨q14, 1, none⟩ = some (.int .i64 xx) := hb5.cell 1; have e2 : W3.cell? ⟨q14, 2, none⟩ = some (.int .i64 yy) := hb5.cell 2; have e3 : W3.cell? ⟨q14, 3, none⟩ = some (.int .u32 (qb : Int)) := hb5.cell 3; have H3 := Lib.hid (H.out.out (HB2.out.trans (hfr.below HQ14.out))); clear hb5 hfr)
                | (go_at_call 19; (with_reducible refine (HC.out _ H3.out.net H3.out.gw).mono ?_); rintro e W4 ⟨⟨v, rfl⟩, l', hn, hs, hE⟩; have H4 := Lib.hid (H3.out.step hn hs hE); clear hn hs hE e0 e1 e2 e3)
                | fail)
              go_roundw
              case rel => exact ⟨j + 1, l', by omega, by go_num, H4⟩
              case measure => simp [intOf]; omega
            by_cases hk4 : k = 4
            · subst hk4
              clear hk1 hk2 hk3 bk1 bk2
              by_cases hx : xx < 0 ∨ (l.length : Int) ≤ xx
              · have HC := Lib.hid fun V (hV : NetI w.heap.size V g l) => take_bad _ V g l xx hV hx
                clear hx
                go_wp2_with (first
                  | ((with_reducible refine gate_dst (N := 78) rfl ?_); refine wpList_load_cells rfl (.tmp 77) 63 rfl b (o + j * 4) (actA 4 xx yy qb) (by simp [Act.eval]) aggAct sizeAct (fun jj v hv => HCell.out _ H.out.bel jj v hv) ?_)
                  | ((with_reducible refine gate_dst (N := 14) rfl ?_); refine box_event rfl (N := 14) rfl (cs := zeroA) (t := 63) ?hr ?_; (case hr => first | (go_simp; done) | (go_simp; rfl)); intro q14 hq W2 hbox hb; have HX2 := Lib.hid (show Blk W2 q14 63 zeroA from hbox); have HQ14 := Lib.hid (Nat.le_of_eq hq.symm); clear hq; have HB2 := Lib.hid hb; clear hb hbox)
                  | (refine wpList_store_part _ rfl (.tmp 14) (.tmp 78) 63 rfl q14 0 (actA 4 xx yy qb) rfl rfl sizeAct rfl 63 _ HX2.out (Nat.le_refl _) (actA 4 xx yy qb) rfl ?_; intro W3 hb5 hfr; have e0 : W3.cell? ⟨q14, 0, none⟩ = some (.int .i64 4) := hb5.cell 0; have e1 : W3.cell? ⟨q14, 1, none⟩ = some (.int .i64 xx) := hb5.cell 1; have e2 : W3.cell? ⟨q14, 2, none⟩ = some (.int .i64 yy) := hb5.cell 2; have e3 : W3.cell? ⟨q14, 3, none⟩ = some (.int .u32 (qb : Int)) := hb5.cell 3; have H3 := Lib.hid (H.out.out (HB2.out.trans (hfr.below HQ14.out))); clear hb5 hfr)
                  | (go_at_call 20; (with_reducible refine (HC.out _ H3.out.net).mono ?_); rintro e W4 ⟨rfl, hb⟩; have H4 := Lib.hid (H3.out.out hb); clear hb)
                  | ((with_reducible refine gate_dst (N := 15) rfl ?_); refine box_event rfl (N := 15) rfl (cs := zeroP) (t := 67) ?hr ?_; (case hr => first | (go_simp; done) | (go_simp; rfl)); intro q15 hq W5 hbox hb; have HX5 := Lib.hid (show Blk W5 q15 67 zeroP from hbox); have HQ15 := Lib.hid (Nat.le_of_eq hq.symm); clear hq; have H5 := Lib.hid hb; clear hb hbox)
                  | (refine wpList_store_part _ rfl (.tmp 15) (.tmp 106) 67 rfl q15 0 (zeroP) rfl rfl sizePc rfl 67 _ HX5.out (Nat.le_refl _) (zeroP) rfl ?_; intro W6 hb5 hfr; have H6 := Lib.hid (H4.out.out (H5.out.trans (hfr.below HQ15.out))); clear hb5 hfr)
                  | fail)
                go_roundw
                case rel => exact ⟨j + 1, l, by omega, by go_num, H6⟩
                case measure => simp [intOf]; omega
              · obtain ⟨kx, rfl⟩ := Int.eq_ofNat_of_zero_le (a := xx) (by omega)
                have hkx : kx < l.length := by omega
                have HC := Lib.hid fun V (hV : NetI w.heap.size V g l) => take_ok _ V g l kx hV hkx (by omega)
                have hpk := (H.out.ok _ (List.getElem_mem hkx)).read (fun e he => (H.out.sr.2 e he).2.1)
                have hpz := H.out.size _ (List.getElem_mem hkx)
                obtain ⟨p, hp⟩ : ∃ p, p = l[kx] := ⟨_, rfl⟩
                rw [← hp] at HC hpk hpz
                have hps : str p.fr.data.toList = p.fr := by simp [str]
                have HEr := Lib.hid (NStep.erase l kx)
                obtain ⟨l', hl'⟩ : ∃ l', l' = l.eraseIdx kx := ⟨_, rfl⟩
                rw [← hl'] at HC HEr
                clear hx hp hl' hkx
                rcases hpk with ⟨hu, htu⟩ | ⟨e, he, hfr⟩
                · obtain ⟨why, place, hup⟩ : ∃ why place, unpackL p.fr.data.toList = ([], why, place) := ⟨_, _, by rw [← unpackL_text _ hu]⟩
                  have hw0 : why ≠ 0 := by rw [hup] at hu; exact hu
                  have HRd : Hid (∀ V, Calls Try.prog 21 #[.string p.fr] V fun e w' => e = .returned (.tuple #[.agg zeroC, .iface 91 (.agg #[.int .i64 0, .iface 77 (.agg #[.int .i64 place, .int .i64 why])])]) ∧ Below V.heap.size V w') := Lib.hid fun V => by
                    have := read_err p.fr.data.toList why place hw0 (by rw [Array.length_toList]; have : p.fr.data.size = p.fr.size := rfl; omega) hup V
                    rw [hps] at this
                    exact this
                  clear hu hup hps hw0
                  go_wp2_with (first
                    | ((with_reducible refine gate_dst (N := 78) rfl ?_); refine wpList_load_cells rfl (.tmp 77) 63 rfl b (o + j * 4) (actA 4 (kx : Int) yy qb) (by simp [Act.eval]) aggAct sizeAct (fun jj v hv => HCell.out _ H.out.bel jj v hv) ?_)
                    | ((with_reducible refine gate_dst (N := 14) rfl ?_); refine box_event rfl (N := 14) rfl (cs := zeroA) (t := 63) ?hr ?_; (case hr => first | (go_simp; done) | (go_simp; rfl)); intro q14 hq W2 hbox hb; have HX2 := Lib.hid (show Blk W2 q14 63 zeroA from hbox); have HQ14 := Lib.hid (Nat.le_of_eq hq.symm); clear hq; have HB2 := Lib.hid hb; clear hb hbox)
                    | (refine wpList_store_part _ rfl (.tmp 14) (.tmp 78) 63 rfl q14 0 (actA 4 (kx : Int) yy qb) rfl rfl sizeAct rfl 63 _ HX2.out (Nat.le_refl _) (actA 4 (kx : Int) yy qb) rfl ?_; intro W3 hb5 hfr; have e0 : W3.cell? ⟨q14, 0, none⟩ = some (.int .i64 4) := hb5.cell 0; have e1 : W3.cell? ⟨q14, 1, none⟩ = some (.int .i64 (kx : Int)) := hb5.cell 1; have e2 : W3.cell? ⟨q14, 2, none⟩ = some (.int .i64 yy) := hb5.cell 2; have e3 : W3.cell? ⟨q14, 3, none⟩ = some (.int .u32 (qb : Int)) := hb5.cell 3; have H3 := Lib.hid (H.out.out (HB2.out.trans (hfr.below HQ14.out))); clear hb5 hfr)
                    | (go_at_call 20; (with_reducible refine (HC.out _ H3.out.net).mono ?_); rintro e' W4 ⟨rfl, hn, hE⟩; have H4 := Lib.hid (H3.out.step hn HEr.out hE); clear hn hE e0 e1 e2 e3)
                    | ((with_reducible refine gate_dst (N := 15) rfl ?_); refine box_event rfl (N := 15) rfl (cs := zeroP) (t := 67) ?hr ?_; (case hr => first | (go_simp; done) | (go_simp; rfl)); intro q15 hq W5 hbox hb; have HX5 := Lib.hid (show Blk W5 q15 67 zeroP from hbox); have HQ15 := Lib.hid (Nat.le_of_eq hq.symm); clear hq; have H5 := Lib.hid hb; clear hb hbox)
                    | (refine wpList_store_part _ rfl (.tmp 15) (.tmp 106) 67 rfl q15 0 (pcA p) rfl rfl sizePc rfl 67 _ HX5.out (Nat.le_refl _) (pcA p) rfl ?_; intro W6 hb5 hfr; have f1 : W6.cell? ⟨q15, 1, none⟩ = some (.string p.fr) := hb5.cell 1; have HX6 := Lib.hid hb5; have H6 := Lib.hid (H4.out.out (H5.out.trans (hfr.below HQ15.out))); clear hb5 hfr)
                    | (go_at_call 21; (with_reducible refine (HRd.out _).mono ?_); rintro e W7 ⟨rfl, hb⟩; have f2 : W7.cell? ⟨q15, 2, none⟩ = some (.bool p.tu) := (HX6.out.out hb).cell 2; rw [htu] at f2; have HX7 := Lib.hid (HX6.out.out hb); have H7 := Lib.hid (H6.out.out hb); clear hb f1)
                    | ((with_reducible refine gate_dst (N := 17) rfl ?_); refine box_event rfl (N := 17) rfl (cs := zeroC) (t := 51) ?hr ?_; (case hr => first | (go_simp; done) | (go_simp; rfl)); intro q17 hq W8 hbox hb; have HX8 := Lib.hid (show Blk W8 q17 51 zeroC from hbox); have HQ17 := Lib.hid (Nat.le_of_eq hq.symm); have hq15 : q15 < q17 := (by rw [hq]; exact HX7.out.lt); have HQ5 := Lib.hid hq15; clear hq15; have f2' : W8.cell? ⟨q15, 2, none⟩ = some (.bool true) := (by rw [← htu]; exact (HX7.out.out hb).cell 2); have HX8q := Lib.hid (HX7.out.out hb); clear f2; clear hq; have H8 := Lib.hid hb; clear hb hbox)
                    | (refine wpList_store_part _ rfl (.tmp 17) (.tmp 114) 51 rfl q17 0 (zeroC) rfl rfl sizeMsg rfl 51 _ HX8.out (Nat.le_refl _) (zeroC) rfl ?_; intro W9 hb5 hfr; have f3 : W9.cell? ⟨q15, 2, none⟩ = some (.bool true) := (by rw [← htu]; exact (HX8q.out.of_far hfr (Nat.ne_of_gt HQ5.out)).cell 2); clear f2'; have H9 := Lib.hid (H7.out.out (H8.out.trans (hfr.below HQ17.out))); clear hb5 hfr)
                    | fail)
                  go_roundw
                  case rel => exact ⟨j + 1, l', by omega, by go_num, H9⟩
                  case measure => simp [intOf]; omega
                · have hgood := (H.out.sr.2 e he).2
                  have hfe : p.fr = str (packL (msgL e.n e.ts e.s.data.toList)) := by rw [← hps, hfr]; rfl
                  have HRd : Hid (∀ V, Calls Try.prog 21 #[.string p.fr] V fun r w' => ∃ (A : Option Addr) (c : Nat), r = .returned (.tuple #[.agg (msgC e.n (.slice A e.ts.length c) e.s), .nilIface]) ∧ KI.R 3 w' V.heap.size All (.slice A e.ts.length c) e.ts ∧ Below V.heap.size V w') := Lib.hid fun V => by
                    rw [hfe]; exact read_ok e.n e.ts e.s hgood.1 V
                  have ht2 : e.ts.take 140 = e.ts := List.take_of_length_le hgood.2.1
                  have hs3 : str (e.s.data.toList.take 1000) = e.s := by
                    rw [List.take_of_length_le (by rw [Array.length_toList]; exact hgood.2.2)]
                    simp [str]
                  have HTo : Hid (∀ V A c, KI.C V A e.ts.length e.ts → e.ts.length ≤ c → c ≤ 9223372036854775807 → Calls Try.prog 16 #[.agg (msgC e.n (.slice A e.ts.length c) e.s)] V fun r w' => ∃ (A' : Option Addr) (c' : Nat), r = .returned (.agg (msgC e.n (.slice A' e.ts.length c') e.s)) ∧ KI.R 3 w' V.heap.size All (.slice A' e.ts.length c') e.ts ∧ Below V.heap.size V w') := Lib.hid fun V A c hr h3 h4 => by
                    have := told_any e.n A c e.ts e.s V hr h3 h4
                    rw [ht2, hs3] at this
                    exact this
                  have HFa := Lib.hid (fnd_all e S he)
                  clear hgood hfe ht2 hs3 hps hfr he
                  go_wp2_with (first
                    | ((with_reducible refine gate_dst (N := 78) rfl ?_); refine wpList_load_cells rfl (.tmp 77) 63 rfl b (o + j * 4) (actA 4 (kx : Int) yy qb) (by simp [Act.eval]) aggAct sizeAct (fun jj v hv => HCell.out _ H.out.bel jj v hv) ?_)
                    | ((with_reducible refine gate_dst (N := 14) rfl ?_); refine box_event rfl (N := 14) rfl (cs := zeroA) (t := 63) ?hr ?_; (case hr => first | (go_simp; done) | (go_simp; rfl)); intro q14 hq W2 hbox hb; have HX2 := Lib.hid (show Blk W2 q14 63 zeroA from hbox); have HQ14 := Lib.hid (Nat.le_of_eq hq.symm); clear hq; have HB2 := Lib.hid hb; clear hb hbox)
                    | (refine wpList_store_part _ rfl (.tmp 14) (.tmp 78) 63 rfl q14 0 (actA 4 (kx : Int) yy qb) rfl rfl sizeAct rfl 63 _ HX2.out (Nat.le_refl _) (actA 4 (kx : Int) yy qb) rfl ?_; intro W3 hb5 hfr; have e0 : W3.cell? ⟨q14, 0, none⟩ = some (.int .i64 4) := hb5.cell 0; have e1 : W3.cell? ⟨q14, 1, none⟩ = some (.int .i64 (kx : Int)) := hb5.cell 1; have e2 : W3.cell? ⟨q14, 2, none⟩ = some (.int .i64 yy) := hb5.cell 2; have e3 : W3.cell? ⟨q14, 3, none⟩ = some (.int .u32 (qb : Int)) := hb5.cell 3; have H3 := Lib.hid (H.out.out (HB2.out.trans (hfr.below HQ14.out))); clear hb5 hfr)
                    | (go_at_call 20; (with_reducible refine (HC.out _ H3.out.net).mono ?_); rintro e' W4 ⟨rfl, hn, hE⟩; have H4 := Lib.hid (H3.out.step hn HEr.out hE); clear hn hE e0 e1 e2 e3)
                    | ((with_reducible refine gate_dst (N := 15) rfl ?_); refine box_event rfl (N := 15) rfl (cs := zeroP) (t := 67) ?hr ?_; (case hr => first | (go_simp; done) | (go_simp; rfl)); intro q15 hq W5 hbox hb; have HX5 := Lib.hid (show Blk W5 q15 67 zeroP from hbox); have HQ15 := Lib.hid (Nat.le_of_eq hq.symm); clear hq; have H5 := Lib.hid hb; clear hb hbox)
                    | (refine wpList_store_part _ rfl (.tmp 15) (.tmp 106) 67 rfl q15 0 (pcA p) rfl rfl sizePc rfl 67 _ HX5.out (Nat.le_refl _) (pcA p) rfl ?_; intro W6 hb5 hfr; have f1 : W6.cell? ⟨q15, 1, none⟩ = some (.string p.fr) := hb5.cell 1; have HX6 := Lib.hid hb5; have H6 := Lib.hid (H4.out.out (H5.out.trans (hfr.below HQ15.out))); clear hb5 hfr)
                    | (go_at_call 21; (with_reducible refine (HRd.out _).mono ?_); rintro r W7 ⟨A3, c3, rfl, ho, hb⟩; have HO7 := Lib.hid ho; have HS7 := Lib.hid (H6.out.bel.size); have H7 := Lib.hid (H6.out.out hb); clear hb ho f1)
                    | ((with_reducible refine gate_dst (N := 17) rfl ?_); refine box_event rfl (N := 17) rfl (cs := zeroC) (t := 51) ?hr ?_; (case hr => first | (go_simp; done) | (go_simp; rfl)); intro q17 hq W8 hbox hb; have HX8 := Lib.hid (show Blk W8 q17 51 zeroC from hbox); have HQ17 := Lib.hid (Nat.le_of_eq hq.symm); clear hq; have H8 := Lib.hid hb; clear hb hbox)
                    | (refine wpList_store_part _ rfl (.tmp 17) (.tmp 114) 51 rfl q17 0 (msgC e.n (.slice A3 e.ts.length c3) e.s) rfl rfl sizeMsg rfl 51 _ HX8.out (Nat.le_refl _) (msgC e.n (.slice A3 e.ts.length c3) e.s) rfl ?_; intro W9 hb5 hfr; have HX9 := Lib.hid hb5; have HO9 := Lib.hid (KI_out (Kd.R_lower HO7.out HS7.out) (H8.out.trans (hfr.below HQ17.out))); have H9 := Lib.hid (H7.out.out (H8.out.trans (hfr.below HQ17.out))); clear hb5 hfr)
                    | fail)
                  have HI9 : Hid (St w W9 (.slice As S.length cs) g S l' ∧ Blk W9 q17 51 (msgC e.n (.slice A3 e.ts.length c3) e.s) ∧ KI.R 3 W9 w.heap.size All (.slice A3 e.ts.length c3) e.ts) := Lib.hid ⟨H9.out, HX9.out, HO9.out⟩
                  clear H H3 H4 H5 H6 H7 H8 H9 HX9 HO9 HX6
                  go_loopw [19, 123] (fun fv mv ws => ∃ m : Nat, m ≤ S.length ∧ fv = .bool (fnd e S m) ∧ mv = .int .i64 (m : Int) ∧ Hid (St w ws (.slice As S.length cs) g S l' ∧ Blk ws q17 51 (msgC e.n (.slice A3 e.ts.length c3) e.s) ∧ KI.R 3 ws w.heap.size All (.slice A3 e.ts.length c3) e.ts)) (fun _ mv _ => S.length - (intOf mv).toNat)
                  case atStart => exact ⟨0, Nat.zero_le _, rfl, rfl, HI9⟩
                  case round =>
                    clear HI9
                    obtain ⟨m, hm, rfl, rfl, HI⟩ := hrel
                    by_cases hmS : m < S.length
                    · obtain ⟨gs, c', cur, hv, hbl, hcur⟩ := HI.out.1.sr.blk (by omega)
                      injection hv with hA1 hA2 hA3
                      subst hA1 hA3
                      have hat := ses_at hcur m hmS
                      have hsx := HI.out.1.sr.2 _ (List.getElem_mem hmS)
                      have hfs := fnd_succ e S m hmS
                      obtain ⟨x, hx⟩ : ∃ x, x = S[m] := ⟨_, rfl⟩
                      rw [← hx] at hat hsx hfs
                      have HAt := Lib.hid (And.intro hbl hat)
                      have hxS : x ∈ S := by rw [hx]; exact List.getElem_mem hmS
                      have HSm : Hid (∀ V A c, St w V (.slice (some ⟨gs, 0, none⟩) S.length cs) g S l' → KI.C V A e.ts.length e.ts → e.ts.length ≤ c → c ≤ 9223372036854775807 → Calls Try.prog 22 #[.agg (Se.val x), .agg (msgC e.n (.slice A e.ts.length c) e.s)] V fun r w' => r = .returned (.bool (sameB x.n e.n x.ts e.ts x.s e.s)) ∧ Below V.heap.size V w') := Lib.hid fun V A c hst hr h3 h4 => by
                        have hk := (hst.sr.2 x hxS).1
                        exact same_any x.n e.n x.A A x.c c x.ts e.ts x.s e.s V (KI_C hk).2.2 hr (KI_C hk).2.1 h3 (KI_cap hk) h4
                      have hmI : (m : Int) < (S.length : Int) := by omega
                      have HFs := Lib.hid hfs
                      clear hbl hat hcur hsx hfs hx hxS
                      obtain ⟨bb, hbb⟩ : ∃ bb, bb = sameB x.n e.n x.ts e.ts x.s e.s := ⟨_, rfl⟩
                      rw [← hbb] at HSm HFs
                      clear hbb
                      cases hfm : fnd e S m with
                      | true =>
                        rw [hfm] at HFs
                        have hcellx := HAt.out
                        clear hcellx
                        go_wp2_with (first
                          | (refine wpList_load_part _ rfl (.tmp 125) 60 rfl gs (m * 12) (Se.val x) (by simp [Act.eval]) aggRef sizeRef 60 _ HAt.out.1 HAt.out.2 ?_)
                          | ((with_reducible refine gate_dst (N := 21) rfl ?_); refine box_event rfl (N := 21) rfl (cs := zeroR) (t := 60) ?hr ?_; (case hr => first | (go_simp; done) | (go_simp; rfl)); intro r21 hq Wa hbox hb; have HXa := Lib.hid (show Blk Wa r21 60 zeroR from hbox); have HQa := Lib.hid (Nat.le_of_eq hq.symm); clear hq; have HBa := Lib.hid hb; clear hb hbox)
                          | (refine wpList_store_part _ rfl (.tmp 21) (.tmp 126) 60 rfl r21 0 (Se.val x) rfl rfl sizeRef rfl 60 _ HXa.out (Nat.le_refl _) (Se.val x) rfl ?_; intro Wb hb5 hfr; have HXb := Lib.hid hb5; have HBb := Lib.hid (HBa.out.trans (hfr.below HQa.out)); clear hb5 hfr)
                          | fail)
                        have H9 := Lib.hid ((HI.out.1.out HBb.out).out (Below.refl _ _).drew)
                        have HX9 := Lib.hid HXb.out.drew
                        have HY9 := Lib.hid (HI.out.2.1.out HBb.out).drew
                        have HK9 := Lib.hid (KI_out (KI_out HI.out.2.2 HBb.out) (Below.refl _ _).drew)
                        clear HXb
                        refine start_ (n := 8) (S := fun W' => Blk W' r21 60 (Se.val x) ∧ Blk W' q17 51 (msgC e.n (.slice A3 e.ts.length c3) e.s)) (ds := []) #[false, false, false, false, false, false, false, false] (by kernel_rfl) rfl rfl (⟨HX9.out, HY9.out⟩) (fun hHeld => ?_)
                        refine pure_ (i := 0) (N := some 127) (v := ?_) (a' := ?_) #[true, false, false, false, false, false, false, false] rfl rfl (by kernel_rfl) (fun _ _ _ h => h) (Or.inl ⟨by rfl, ?_⟩) ?_ ?_
                        rotate_left
                        · intro w'
                          go_simp
                          (try with_reducible rfl)
                        rotate_left
                        · simp only [Act.put, List.setIfInBounds_toArray, List.set_cons_zero, List.set_cons_succ]
                          rfl
                        refine pure_ (i := 1) (N := some 128) (v := ?_) (a' := ?_) #[true, true, false, false, false, false, false, false] rfl rfl (by kernel_rfl) (fun _ _ _ h => h) (Or.inl ⟨by rfl, ?_⟩) ?_ ?_
                        rotate_left
                        · intro w'
                          go_simp
                          (try with_reducible rfl)
                        rotate_left
                        · simp only [Act.put, List.setIfInBounds_toArray, List.set_cons_zero, List.set_cons_succ]
                          rfl
                        refine pure_ (i := 2) (N := some 129) (v := undef) (a' := ?_) #[true, true, true, false, false, false, false, false] rfl rfl (by kernel_rfl) (fun _ _ _ h => h) (Or.inr ⟨by rfl, rfl⟩) ?_ ?_
                        rotate_left
                        · simp only [Act.put, List.setIfInBounds_toArray, List.set_cons_zero, List.set_cons_succ]
                          rfl
                        refine pure_ (i := 3) (N := some 130) (v := undef) (a' := ?_) #[true, true, true, true, false, false, false, false] rfl rfl (by kernel_rfl) (fun _ _ _ h => h) (Or.inr ⟨by rfl, rfl⟩) ?_ ?_
                        rotate_left
                        · simp only [Act.put, List.setIfInBounds_toArray, List.set_cons_zero, List.set_cons_succ]
                          rfl
                        refine pure_ (i := 4) (N := some 131) (v := undef) (a' := ?_) #[true, true, true, true, true, false, false, false] rfl rfl (by kernel_rfl) (fun _ _ _ h => h) (Or.inr ⟨by rfl, rfl⟩) ?_ ?_
                        rotate_left
                        · simp only [Act.put, List.setIfInBounds_toArray, List.set_cons_zero, List.set_cons_succ]
                          rfl
                        refine pure_ (i := 5) (N := some 132) (v := undef) (a' := ?_) #[true, true, true, true, true, true, false, false] rfl rfl (by kernel_rfl) (fun _ _ _ h => h) (Or.inr ⟨by rfl, rfl⟩) ?_ ?_
                        rotate_left
                        · simp only [Act.put, List.setIfInBounds_toArray, List.set_cons_zero, List.set_cons_succ]
                          rfl
                        refine pure_ (i := 6) (N := some 133) (v := ?_) (a' := ?_) #[true, true, true, true, true, true, true, false] rfl rfl (by kernel_rfl) (fun _ _ _ h => h) (Or.inl ⟨by rfl, ?_⟩) ?_ ?_
                        rotate_left
                        · intro w'
                          go_simp
                          (try with_reducible rfl)
                        rotate_left
                        · simp only [Act.put, List.setIfInBounds_toArray, List.set_cons_zero, List.set_cons_succ]
                          rfl
                        refine pure_ (i := 7) (N := some 19) (v := ?_) (a' := ?_) #[true, true, true, true, true, true, true, true] rfl rfl (by kernel_rfl) (fun _ _ _ h => h) (Or.inl ⟨by rfl, ?_⟩) ?_ ?_
                        rotate_left
                        · intro w'
                          go_simp
                          (try with_reducible rfl)
                        rotate_left
                        · simp only [Act.put, List.setIfInBounds_toArray, List.set_cons_zero, List.set_cons_succ]
                          rfl
                        refine done_ (by kernel_rfl) ?_
                        go_wp2_with fail
                        go_roundw
                        case rel => exact ⟨m + 1, by omega, by rw [HFs.out]; rfl, by go_num, Lib.hid ⟨H9.out, HY9.out, HK9.out⟩⟩
                        case measure => simp [intOf]; omega
                      | false =>
                        rw [hfm] at HFs
                        have hcellx := HAt.out
                        clear hcellx
                        go_wp2_with (first
                          | (refine wpList_load_part _ rfl (.tmp 125) 60 rfl gs (m * 12) (Se.val x) (by simp [Act.eval]) aggRef sizeRef 60 _ HAt.out.1 HAt.out.2 ?_)
                          | ((with_reducible refine gate_dst (N := 21) rfl ?_); refine box_event rfl (N := 21) rfl (cs := zeroR) (t := 60) ?hr ?_; (case hr => first | (go_simp; done) | (go_simp; rfl)); intro r21 hq Wa hbox hb; have HXa := Lib.hid (show Blk Wa r21 60 zeroR from hbox); have HQa := Lib.hid (Nat.le_of_eq hq.symm); clear hq; have HBa := Lib.hid hb; clear hb hbox)
                          | (refine wpList_store_part _ rfl (.tmp 21) (.tmp 126) 60 rfl r21 0 (Se.val x) rfl rfl sizeRef rfl 60 _ HXa.out (Nat.le_refl _) (Se.val x) rfl ?_; intro Wb hb5 hfr; have HXb := Lib.hid hb5; have HBb := Lib.hid (HBa.out.trans (hfr.below HQa.out)); clear hb5 hfr)
                          | fail)
                        have H9 := Lib.hid ((HI.out.1.out HBb.out).out (Below.refl _ _).drew)
                        have HX9 := Lib.hid HXb.out.drew
                        have HY9 := Lib.hid (HI.out.2.1.out HBb.out).drew
                        have HK9 := Lib.hid (KI_out (KI_out HI.out.2.2 HBb.out) (Below.refl _ _).drew)
                        clear HXb
                        refine start_ (n := 8) (S := fun W' => Blk W' r21 60 (Se.val x) ∧ Blk W' q17 51 (msgC e.n (.slice A3 e.ts.length c3) e.s)) (ds := []) #[false, false, false, false, false, false, false, false] (by kernel_rfl) rfl rfl (⟨HX9.out, HY9.out⟩) (fun hHeld => ?_)
                        refine pure_ (i := 0) (N := some 127) (v := ?_) (a' := ?_) #[true, false, false, false, false, false, false, false] rfl rfl (by kernel_rfl) (fun _ _ _ h => h) (Or.inl ⟨by rfl, ?_⟩) ?_ ?_
                        rotate_left
                        · intro w'
                          go_simp
                          (try with_reducible rfl)
                        rotate_left
                        · simp only [Act.put, List.setIfInBounds_toArray, List.set_cons_zero, List.set_cons_succ]
                          rfl
                        refine pure_ (i := 1) (N := some 128) (v := ?_) (a' := ?_) #[true, true, false, false, false, false, false, false] rfl rfl (by kernel_rfl) (fun _ _ _ h => h) (Or.inl ⟨by rfl, ?_⟩) ?_ ?_
                        rotate_left
                        · intro w'
                          go_simp
                          (try with_reducible rfl)
                        rotate_left
                        · simp only [Act.put, List.setIfInBounds_toArray, List.set_cons_zero, List.set_cons_succ]
                          rfl
                        refine take_ (i := 2) (N := some 129) (v := ?_) (a' := ?_) #[true, true, true, false, false, false, false, false] rfl rfl (by kernel_rfl) (fun _ _ _ h => h) (Or.inl ⟨by rfl, ?_⟩) hHeld ?_ ?_
                        rotate_left
                        · intro w' s0
                          obtain ⟨t1, t2⟩ := s0
                          refine exec_load_part _ (.tmp 21) 60 ?_ r21 0 (Se.val x) ?_ aggRef sizeRef 60 _ t1 ?_
                          · rfl
                          · rfl
                          · intro j v hv
                            rw [Nat.zero_add]
                            simpa using hv
                        rotate_left
                        · simp only [Act.put, List.setIfInBounds_toArray, List.set_cons_zero, List.set_cons_succ]
                          rfl
                        refine take_ (i := 3) (N := some 130) (v := ?_) (a' := ?_) #[true, true, true, true, false, false, false, false] rfl rfl (by kernel_rfl) (fun _ _ _ h => h) (Or.inl ⟨by rfl, ?_⟩) hHeld ?_ ?_
                        rotate_left
                        · intro w' s0
                          obtain ⟨t1, t2⟩ := s0
                          refine exec_load_part _ (.tmp 17) 51 ?_ q17 0 (msgC e.n (.slice A3 e.ts.length c3) e.s) ?_ aggMsg sizeMsg 51 _ t2 ?_
                          · rfl
                          · rfl
                          · intro j v hv
                            rw [Nat.zero_add]
                            simpa using hv
                        rotate_left
                        · simp only [Act.put, List.setIfInBounds_toArray, List.set_cons_zero, List.set_cons_succ]
                          rfl
                        refine one_ (i := 4) (N := some 131) (oi := ⟨some 131, Go.Op.call ⟨Go.Callee.value (Go.Operand.func 16), #[Go.Operand.tmp 130], #[51]⟩, 60, "top08.go:52", #[⟨3, Go.Ground.data⟩, ⟨1, Go.Ground.chain⟩, ⟨1, Go.Ground.guard⟩], some (1, false)⟩) #[true, true, true, true, true, false, false, false] rfl rfl (by kernel_rfl) (by decide) (fun K hK => ?_)
                        rw [if_pos (by rfl)]
                        go_simp
                        (go_at_call 16; (with_reducible refine (HTo.out _ _ _ (KI_C HK9.out).2.2 (KI_C HK9.out).2.1 (KI_cap HK9.out)).mono ?_); rintro ee wa ⟨A4, c4, rfl, ho, hb⟩; have HOa := Lib.hid ho; have HXa := Lib.hid (HX9.out.out hb); have HYa := Lib.hid (HY9.out.out hb); have HHa := Lib.hid (H9.out.out hb); have HKa := Lib.hid hb; clear ho hb)
                        refine hK.out _ _ (⟨HXa.out, HYa.out⟩) (fun hHeld => ?_)
                        clear hK K
                        try simp only [Act.put, List.setIfInBounds_toArray, List.set_cons_zero, List.set_cons_succ]
                        refine one_ (i := 5) (N := some 132) (oi := ⟨some 132, Go.Op.call ⟨Go.Callee.value (Go.Operand.func 22), #[Go.Operand.tmp 129, Go.Operand.tmp 131], #[60, 60]⟩, 4, "top08.go:52", #[⟨2, Go.Ground.data⟩, ⟨4, Go.Ground.data⟩, ⟨4, Go.Ground.chain⟩, ⟨1, Go.Ground.guard⟩], some (1, false)⟩) #[true, true, true, true, true, true, false, false] rfl rfl (by kernel_rfl) (by decide) (fun K hK => ?_)
                        rw [if_pos (by rfl)]
                        go_simp
                        (go_at_call 22; (with_reducible refine (HSm.out _ _ _ HHa.out (KI_C HOa.out).2.2 (KI_C HOa.out).2.1 (KI_cap HOa.out)).mono ?_); rintro ee wb ⟨rfl, hb⟩; have HXb := Lib.hid (HXa.out.out hb); have HYb := Lib.hid (HYa.out.out hb); have HHb := Lib.hid (HHa.out.out hb); have HKb := Lib.hid hb; clear hb)
                        refine hK.out _ _ (⟨HXb.out, HYb.out⟩) (fun hHeld => ?_)
                        clear hK K
                        try simp only [Act.put, List.setIfInBounds_toArray, List.set_cons_zero, List.set_cons_succ]
                        refine pure_ (i := 6) (N := some 133) (v := ?_) (a' := ?_) #[true, true, true, true, true, true, true, false] rfl rfl (by kernel_rfl) (fun _ _ _ h => h) (Or.inl ⟨by rfl, ?_⟩) ?_ ?_
                        rotate_left
                        · intro w'
                          go_simp
                          (try with_reducible rfl)
                        rotate_left
                        · simp only [Act.put, List.setIfInBounds_toArray, List.set_cons_zero, List.set_cons_succ]
                          rfl
                        refine pure_ (i := 7) (N := some 19) (v := ?_) (a' := ?_) #[true, true, true, true, true, true, true, true] rfl rfl (by kernel_rfl) (fun _ _ _ h => h) (Or.inl ⟨by rfl, ?_⟩) ?_ ?_
                        rotate_left
                        · intro w'
                          go_simp
                          (try with_reducible rfl)
                        rotate_left
                        · simp only [Act.put, List.setIfInBounds_toArray, List.set_cons_zero, List.set_cons_succ]
                          rfl
                        refine done_ (by kernel_rfl) ?_
                        go_wp2_with fail
                        go_roundw
                        case rel => exact ⟨m + 1, by omega, by rw [HFs.out]; simp, by go_num, Lib.hid ⟨HHb.out, HYb.out, KI_out (KI_out HK9.out HKa.out) HKb.out⟩⟩
                        case measure => simp [intOf]; omega
                    · obtain rfl : m = S.length := by omega
                      rw [HFa.out]
                      go_wp2_with fail
                      go_roundw
                      case rel => exact ⟨j + 1, l', by omega, by go_num, Lib.hid HI.out.1⟩
                      case measure => simp [intOf]; omega
            have bk3 : (k == 3) = false := beq_eq_false_iff_ne.2 hk3
            have bk4 : (k == 4) = false := beq_eq_false_iff_ne.2 hk4
            go_wp2_with (first
              | ((with_reducible refine gate_dst (N := 78) rfl ?_); refine wpList_load_cells rfl (.tmp 77) 63 rfl b (o + j * 4) (actA k xx yy qb) (by simp [Act.eval]) aggAct sizeAct (fun jj v hv => HCell.out _ H.out.bel jj v hv) ?_)
              | ((with_reducible refine gate_dst (N := 14) rfl ?_); refine box_event rfl (N := 14) rfl (cs := zeroA) (t := 63) ?hr ?_; (case hr => first | (go_simp; done) | (go_simp; rfl)); intro q14 hq W2 hbox hb; have HX2 := Lib.hid (show Blk W2 q14 63 zeroA from hbox); have HQ14 := Lib.hid (Nat.le_of_eq hq.symm); clear hq; have HB2 := Lib.hid hb; clear hb hbox)
              | (refine wpList_store_part _ rfl (.tmp 14) (.tmp 78) 63 rfl q14 0 (actA k xx yy qb) rfl rfl sizeAct rfl 63 _ HX2.out (Nat.le_refl _) (actA k xx yy qb) rfl ?_; intro W3 hb5 hfr; have e0 : W3.cell? ⟨q14, 0, none⟩ = some (.int .i64 k) := hb5.cell 0; have e1 : W3.cell? ⟨q14, 1, none⟩ = some (.int .i64 xx) := hb5.cell 1; have e2 : W3.cell? ⟨q14, 2, none⟩ = some (.int .i64 yy) := hb5.cell 2; have e3 : W3.cell? ⟨q14, 3, none⟩ = some (.int .u32 (qb : Int)) := hb5.cell 3; have H3 := Lib.hid (H.out.out (HB2.out.trans (hfr.below HQ14.out))); clear hb5 hfr)
              | fail)
            go_roundw
            case rel => exact ⟨j + 1, l, by omega, by go_num, H3⟩
            case measure => simp [intOf]; omega
          · have hend3 : ¬ ((j : Int) < (M : Int)) ∨ ((j : Int) < (M : Int) ∧ ¬ ((j : Int) < 30)) := by omega
            have hfin : (l.length : Int) ≤ (S.length : Int) := by have := H.out.len; omega
            have HLen := Lib.hid (len_any _ wr g l H.out.net)
            have HBl := Lib.hid H.out.bel
            rcases hend3 with hend3 | ⟨hend3, hend4⟩
            all_goals
              go_wp2_with (first
                | (go_at_call 23; (with_reducible refine (HLen.out).mono ?_); rintro e W3 ⟨rfl, hb⟩; have HBf := Lib.hid (HBl.out.trans (hb.mono HBl.out.size)); clear hb)
                | fail)
              go_ret
              exact ⟨rfl, HBf.out⟩
end Go.Proofs.Ytjlfoiocceepjaa
