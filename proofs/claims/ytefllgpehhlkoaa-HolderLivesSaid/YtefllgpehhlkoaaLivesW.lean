/-
  HolderLives, its walk.
-/
import Derived.Test.YtefllgpehhlkoaaEarlyW
import Derived.Test.YtefllgpehhlkoaaMlaw
import Derived.Test.YtefllgpehhlkoaaSeen
import Derived.Test.YtefllgpehhlkoaaClk3
import Derived.Test.YtefllgpehhlkoaaOpens
namespace Go.Proofs.Ytefllgpehhlkoaa
open Go.RowKit

/-- what holds of the state and of the numbers told, ahead of move i -/
def LvOk (h : HS) (l : List Int) (i : Nat) : Prop :=
  0 ≤ h.life ∧ h.life ≤ i ∧ 0 ≤ h.count ∧ h.count ≤ i ∧ h.wants.length ≤ i ∧ h.has = [] ∧ l.length ≤ i ∧ ∀ n ∈ l, n ≤ h.life * 1048576 + h.count

theorem lv_crash {h : HS} {l : List Int} {i : Nat} (k : LvOk h l i) (hi : i < 30) : LvOk ⟨nextLife h.life, 0, [], []⟩ l (i + 1) := by
  obtain ⟨a, b, c, d, e, f, g, m⟩ := k
  have hn : nextLife h.life = h.life + 1 := by unfold nextLife; omega
  rw [hn]
  refine ⟨by simp only; omega, by simp only; omega, by simp, by simp only; omega, by simp, rfl, by omega, fun n hnl => ?_⟩
  have := m n hnl
  simp only
  omega
/-- the number that is told -/
def lvNum (h : HS) : Int := h.life * 1048576 + (h.count + 1)
/-- the state behind the asking -/
def lvNext (h : HS) (i : Nat) : HS := ⟨h.life, h.count + 1, mput h.wants 1 (lvNum h, (i : Int)), h.has⟩
theorem lv_ask {h : HS} {l : List Int} {i : Nat} (k : LvOk h l i) (hi : i < 30) : askH h i 1 = (lvNext h i, lvNum h, 0) := by
  obtain ⟨a, b, c, d, e, f, g, m⟩ := k
  unfold askH lvNext lvNum
  rw [if_neg (by omega), if_neg (by omega)]
theorem lv_next {h : HS} {l : List Int} {i : Nat} (k : LvOk h l i) : LvOk (lvNext h i) (l ++ [lvNum h]) (i + 1) := by
  obtain ⟨a, b, c, d, e, f, g, m⟩ := k
  have hp := mput_len h.wants 1 (lvNum h, (i : Int))
  refine ⟨a, by simp only [lvNext]; omega, by simp only [lvNext]; omega, by simp only [lvNext]; omega, by simp only [lvNext]; omega, f, by simp; omega, fun n hn => ?_⟩
  rcases List.mem_append.1 hn with h1 | h1
  · have := m n h1
    simp only [lvNext]
    omega
  · obtain rfl := List.mem_singleton.1 h1
    simp only [lvNext, lvNum]
    omega
theorem lv_ne {h : HS} {l : List Int} {i : Nat} (k : LvOk h l i) {n : Int} (hn : n ∈ l) : n < lvNum h := by
  have := k.2.2.2.2.2.2.2 n hn
  unfold lvNum
  omega
theorem lv_none (L : Int) (term margin n : Int) : grantH ⟨L, 0, [], []⟩ 0 term margin 1 n 1 = (⟨L, 0, [], []⟩, 8) := rfl
theorem lv_old {h : HS} {i : Nat} {n : Int} (term margin : Int) (hn : n < lvNum h) : grantH (lvNext h i) i term margin 1 n 1 = (lvNext h i, 14) := by
  unfold grantH
  simp only [lvNext, mget_put, if_true]
  rw [if_neg (by omega)]

/-- what the outer loop keeps -/
structure Lv (w W : World) (term margin : Int) (i : Nat) (h : HS) (m1 m2 : Option Nat) (v : Value) (l : List Int) : Prop where
  var : HVar W (w.heap.size + 1) h m1 m2
  own : Own W (w.heap.size + 2) v l
  p0 : W.cell? ⟨w.heap.size, 0, none⟩ = some (.int .i64 term)
  p1 : W.cell? ⟨w.heap.size, 1, none⟩ = some (.int .i64 margin)
  only : Only w.heap.size w.heap.size w W
  ok : LvOk h l i
def LvRel (w : World) (term margin : Int) (len : Nat) (v iv : Value) (W : World) : Prop :=
  ∃ (i : Nat) (h : HS) (m1 m2 : Option Nat) (l : List Int), iv = .int .i64 i ∧ i ≤ 30 ∧ i ≤ len ∧ Lv w W term margin i h m1 m2 v l

theorem Only.zero {w w' : World} (o : Only w.heap.size w.heap.size w w') : Only 0 0 w w' := ⟨o.os, o.tape, o.output, o.size, fun k hk _ => o.block k hk (.inl hk)⟩
theorem Own.grown {w w' : World} {base : Nat} {v : Value} {l : List Int} (h : Own w base v l) (o : Only w.heap.size w.heap.size w w') : Own w' base v l := h.keptOnly o.zero (Nat.zero_le _)
theorem Own.again {w : World} {base : Nat} {a : Option Addr} {cap : Nat} {l : List Int} (h : Own w base (.slice a l.length cap) l) : RowAt w w.heap.size a l := by
  obtain ⟨a', c', hv, hs⟩ := h.row
  simp at hv
  obtain ⟨rfl, rfl⟩ := hv
  exact hs.row

theorem build1 (w : World) (x : Int) : (Instr.buildSlice 22 1 #[(0, .int .i64 x)]).run Try.prog w = .ok (.slice (some ⟨w.heap.size, 0, none⟩) 1 1) (w.alloc (.cells #[.int .i64 x] 3)) := by kernel_rfl
theorem own_grown {w w' : World} {base T : Nat} {v : Value} {l : List Int} (h : Own w base v l) (hg : w.grownBy w' v.ownBlock) (hT : ∀ g, v.ownBlock = some g → g < T) : Only base T w w' := by
  obtain ⟨_, h | ⟨g, cap, cur, rfl, hb, _⟩⟩ := h
  · obtain ⟨rfl, _⟩ := h
    exact Only.of_grown_none hg
  · exact (Only.of_grown hg).mono hb (hT g rfl)
theorem MapIs.grown_own {α : Type} {E : Elem α} {w w' : World} {m : Option Nat} {es : List (Int × α)} {base : Nat} {v : Value} {l : List Int} (hm : MapIs E w m es) (h : Own w base v l) (hg : w.grownBy w' v.ownBlock) : MapIs E w' m es := by
  obtain ⟨_, h | ⟨g, cap, cur, rfl, hb, hh, _⟩⟩ := h
  · obtain ⟨rfl, _⟩ := h
    exact hm.kept (Only.of_grown_none (lo := 0) (hi := 0) hg) (by omega)
  · refine hm.kept (Only.of_grown hg) (fun b hbm => ?_)
    subst hbm
    have h' : MapAt E w b es := hm
    obtain ⟨arr, clock, hx, _⟩ := h'.reads
    have hne : b ≠ g := by
      intro e
      subst e
      rw [hh] at hx
      cases hx
    show b < g ∨ g + 1 ≤ b
    omega
theorem HVar.grown_own {w w' : World} {b : Nat} {h : HS} {m1 m2 : Option Nat} {base T : Nat} {v : Value} {l : List Int} (k : HVar w b h m1 m2) (o : Own w base v l) (hg : w.grownBy w' v.ownBlock) (hT : ∀ g, v.ownBlock = some g → g < T) (hb : b < base ∨ T ≤ b) : HVar w' b h m1 m2 :=
  ⟨k.box.kept (own_grown o hg hT) k.lt hb, k.wants.grown_own o hg, k.has.grown_own o hg, Nat.lt_of_lt_of_le k.lt (own_grown o hg hT).size⟩
theorem sl_one (w : World) (x : Int) : Sl (w.alloc (.cells #[.int .i64 x] 3)) (w.heap.size + 1) (some ⟨w.heap.size, 0, none⟩) 1 [x] :=
  ⟨by simp, fun h => by simp at h, .inr ⟨w.heap.size, 0, rfl, by omega, fun i hi => by
    obtain rfl : i = 0 := by simp at hi; omega
    simp [nth]⟩⟩

set_option maxRecDepth 100000 in
set_option maxHeartbeats 1000000 in
theorem lives_any (w : World) (a : Option Addr) (len cap : Nat) (z : Nat → Bool) (term margin : Int) (hz : IsBools w a len cap z) :
    Calls Try.prog 7 #[.slice a len cap, .agg #[.int .i64 term, .int .i64 margin]] w (TrueOnly w) := by
  have hO : Hid (Only w.heap.size w.heap.size w w) := Lib.hid (Only.refl _ _ _)
  have HZ := Lib.hid hz
  have hcap : cap ≤ 9223372036854775807 := hz.2.1
  have hlc : len ≤ cap := hz.1
  have hb0 := build0
  clear hz
  go_enter Try.func7, Try.ntmps7
  go_wp2_with fail
  go_loopw [6, 7] (fun v iv wr => LvRel w term margin len v iv wr) (fun _ iv _ => len - (intOf iv).toNat)
  case atStart =>
    refine ⟨0, ⟨0, 0, [], []⟩, none, none, [], rfl, by omega, by omega, ?_⟩
    have hp := pair_at (at_top w (.cells #[.int .i64 term, .int .i64 margin] 37) w.heap.size rfl)
    have hw : HVar ((w.alloc (.cells #[.int .i64 term, .int .i64 margin] 37)).alloc (.cells #[.int .i64 0, .int .i64 0, .map none, .map none] 41)) (w.heap.size + 1) ⟨0, 0, [], []⟩ none none := by
      have := HVar.new (w := w.alloc (.cells #[.int .i64 term, .int .i64 margin] 37)) (h := ⟨0, 0, [], []⟩) (m1 := none) (m2 := none) rfl rfl
      simpa using this
    have hown := Own.empty ((w.alloc (.cells #[.int .i64 term, .int .i64 margin] 37)).alloc (.cells #[.int .i64 0, .int .i64 0, .map none, .map none] 41)) (w.heap.size + 2) (by simp)
    have o1 := (Only.refl 0 0 (w.alloc (.cells #[.int .i64 term, .int .i64 margin] 37))).alloc (.cells #[.int .i64 0, .int .i64 0, .map none, .map none] 41)
    have o2 := o1.alloc (.cells #[] 3)
    exact ⟨hw.kept ((Only.refl _ _ _).alloc _), by simpa using hown, (o2.cell (by simp) (.inr (Nat.zero_le _))).trans hp.1, (o2.cell (by simp) (.inr (Nat.zero_le _))).trans hp.2, ((hO.out.alloc _).alloc _).alloc _, by unfold LvOk; simp⟩
  case round =>
    obtain ⟨i, h, m1, m2, l, rfl, hi30, hil, hlv⟩ := hrel
    by_cases hlt : i < len ∧ i < 30
    · obtain ⟨hlt, h30⟩ := hlt
      have h30' : (i : Int) < 30 := by omega
      obtain ⟨b, o, rfl, hb, hcell⟩ : ∃ b o, a = some ⟨b, o, none⟩ ∧ b < w.heap.size ∧ ∀ i, i < len → w.cell? ⟨b, o + i, none⟩ = some (.bool (z i)) := by
        rcases HZ.out.2.2 with h0 | h0
        · omega
        · exact h0
      have hc : wr.cell? ⟨b, o + i, none⟩ = some (.bool (z i)) := (hlv.only.cell (by exact hb) (.inl (by exact hb))).trans (hcell i hlt)
      clear hcell
      obtain ⟨av, capv, rfl, hsv⟩ := hlv.own.row
      have HL := Lib.hid hlv
      obtain ⟨c0, c1, c2, c3, cf⟩ := hlv.var.box
      have p0 := hlv.p0
      have p1 := hlv.p1
      clear hlv hsv
      cases hzi : z i with
      | true =>
        rw [hzi] at hc
        go_wp2_with (go_at_call 30; refine (crash_any wr h.life h.count m1 m2).mono ?_; rintro e W1 ⟨rfl, ho'⟩; have HV1 := HL.out.var.kept ho'; have hob := Lib.hid ho'; obtain ⟨k0, k1, k2, k3⟩ := HV1.box.keys; obtain ⟨d0, d1, d2, d3, df⟩ := HV1.box; have HV2 := Lib.hid HV1; clear HV1 ho'; unfold hval)
        have HF : Hid (HVar (World.four W1 (w.heap.size + 1) (nextLife h.life) 0 none none) (w.heap.size + 1) ⟨nextLife h.life, 0, [], []⟩ none none ∧ Own (World.four W1 (w.heap.size + 1) (nextLife h.life) 0 none none) (w.heap.size + 2) (.slice av l.length capv) l ∧
            ((World.four W1 (w.heap.size + 1) (nextLife h.life) 0 none none).cell? ⟨w.heap.size, 0, none⟩ = some (.int .i64 term) ∧ (World.four W1 (w.heap.size + 1) (nextLife h.life) 0 none none).cell? ⟨w.heap.size, 1, none⟩ = some (.int .i64 margin)) ∧ Only w.heap.size w.heap.size w (World.four W1 (w.heap.size + 1) (nextLife h.life) 0 none none)) := by
          have hv := HL.out
          have h4 := four_only W1 (w.heap.size + 1) (nextLife h.life) 0 none none
          have s1 := hv.only.size
          have s2 := hob.out.size
          have s3 := hv.var.lt
          refine ⟨HV2.out.set (h' := ⟨nextLife h.life, 0, [], []⟩) rfl rfl, (hv.own.grown hob.out).keptOnly h4 (Nat.le_refl _), ⟨?_, ?_⟩, (hv.only.then hob.out s1).fresh (h4.mono (by omega) (Nat.le_refl _))⟩
          · rw [h4.cell (by show w.heap.size < _; omega) (.inl (by show w.heap.size < _; omega)), hob.out.cell (by show w.heap.size < _; omega) (.inl (by show w.heap.size < _; omega))]; exact hv.p0
          · rw [h4.cell (by show w.heap.size < _; omega) (.inl (by show w.heap.size < _; omega)), hob.out.cell (by show w.heap.size < _; omega) (.inl (by show w.heap.size < _; omega))]; exact hv.p1
        unfold World.four at HF
        generalize ((((W1.setCell ⟨w.heap.size + 1, 0, none⟩ (.int .i64 (nextLife h.life))).setCell ⟨w.heap.size + 1, 1, none⟩ (.int .i64 0)).setCell ⟨w.heap.size + 1, 2, none⟩ (.map none)).setCell ⟨w.heap.size + 1, 3, none⟩ (.map none)) = wo at HF ⊢
        clear k0 k1 k2 k3 d0 d1 d2 d3 df c0 c1 c2 c3 cf p0 p1 hc HV2 hob
        have hcl : l.length ≤ capv := HL.out.own.row.elim fun a' ⟨c', hv, hs⟩ => by
          simp at hv
          obtain ⟨rfl, rfl⟩ := hv
          exact hs.le
        have hl30 : l.length ≤ 30 := by have := HL.out.ok.2.2.2.2.2.2.1; omega
        go_loopw [39] (fun kv wr2 => ∃ k : Nat, k ≤ l.length ∧ kv = .int .i64 k ∧ Only wo.heap.size wo.heap.size wo wr2) (fun kv _ => l.length - (intOf kv).toNat)
        case atStart => exact ⟨0, Nat.zero_le _, rfl, Only.refl _ _ _⟩
        case round =>
          obtain ⟨k, hk, rfl, ho2⟩ := hrel
          by_cases hkl : k < l.length
          · have HVr := HF.out.1.kept ho2
            obtain ⟨c0, c1, c2, c3, cf⟩ := HVr.box
            have HVr' := Lib.hid HVr
            have hsz := HF.out.2.2.2.size
            have p0 := (ho2.cell (p := ⟨w.heap.size, 0, none⟩) (by have := HF.out.1.lt; show w.heap.size < _; omega) (.inl (by have := HF.out.1.lt; show w.heap.size < _; omega))).trans HF.out.2.2.1.1
            have p1 := (ho2.cell (p := ⟨w.heap.size, 1, none⟩) (by have := HF.out.1.lt; show w.heap.size < _; omega) (.inl (by have := HF.out.1.lt; show w.heap.size < _; omega))).trans HF.out.2.2.1.2
            obtain ⟨g, o2, rfl, hg, hgc⟩ := HF.out.2.1.again.addr (by omega)
            have hn : wr.cell? ⟨g, o2 + k, none⟩ = some (.int .i64 (nth l k)) := (ho2.cell (by exact hg) (.inl (by exact hg))).trans (hgc k hkl)
            have HO2 := Lib.hid ho2
            have hkl' : (k : Int) < (l.length : Int) := by omega
            clear HVr hgc ho2
            go_wp2_with (go_at_call 27; refine (grant_any _ _ ⟨nextLife h.life, 0, [], []⟩ 0 term margin 1 (nth l k) 1 HVr'.out.is (WalkArith.wf_i64 (by decide)) (by simp)).mono ?_; rw [lv_none]; rintro e W2 ⟨v, rfl, ⟨n1, n2, rfl, x1', x2'⟩, ho'⟩; have HO3 := Lib.hid ho'; clear x1' x2' ho'; unfold hval)
            go_roundw
            case rel => exact ⟨k + 1, by omega, by go_num, ((HO2.out.then HO3.out HO2.out.size).alloc _)⟩
            case measure => simp [intOf]; omega
          · obtain rfl : k = l.length := by omega
            have HX : Hid (Lv w wr term margin (i + 1) ⟨nextLife h.life, 0, [], []⟩ none none (.slice av l.length capv) l) := by
              have h1 := HF.out.1.lt
              exact ⟨HF.out.1.kept ho2, HF.out.2.1.grown ho2, (ho2.cell (by show w.heap.size < _; omega) (.inl (by show w.heap.size < _; omega))).trans HF.out.2.2.1.1, (ho2.cell (by show w.heap.size < _; omega) (.inl (by show w.heap.size < _; omega))).trans HF.out.2.2.1.2, HF.out.2.2.2.then ho2 HF.out.2.2.2.size, lv_crash HL.out.ok h30⟩
            clear ho2
            go_wp2_with fail
            go_roundw
            case rel => exact ⟨i + 1, _, _, _, l, by go_num, by omega, by omega, HX.out⟩
            case measure => simp [intOf]; omega
      | false =>
        rw [hzi] at hc
        have hw6 : h.wants.length < 1000000 := by have := HL.out.ok.2.2.2.2.1; omega
        go_wp2_with (go_at_call 26; refine (ask_any wr _ h i 1 HL.out.var.is (WalkArith.wf_i64 (by decide)) hw6).mono ?_; rw [lv_ask HL.out.ok h30]; rintro e W1 ⟨v, rfl, ⟨n1, n2, rfl, x1', x2'⟩, ho'⟩; have HV1 := Lib.hid (HVar.new (h := lvNext h i) x1' x2'); have hob := Lib.hid ho'; clear x1' x2' ho'; unfold hval; dsimp only [lvNext])
        have HF : Hid ((HVar (W1.alloc (.cells #[.int .i64 h.life, .int .i64 (h.count + 1), .map n1, .map n2] 41)) W1.heap.size (lvNext h i) n1 n2 ∧ HVar (W1.alloc (.cells #[.int .i64 h.life, .int .i64 (h.count + 1), .map n1, .map n2] 41)) (w.heap.size + 1) h m1 m2 ∧ w.heap.size + 1 < W1.heap.size ∧ ∀ g, (Value.slice av l.length capv).ownBlock = some g → g < W1.heap.size) ∧ Own (W1.alloc (.cells #[.int .i64 h.life, .int .i64 (h.count + 1), .map n1, .map n2] 41)) (w.heap.size + 2) (.slice av l.length capv) l ∧
            ((W1.alloc (.cells #[.int .i64 h.life, .int .i64 (h.count + 1), .map n1, .map n2] 41)).cell? ⟨w.heap.size, 0, none⟩ = some (.int .i64 term) ∧ (W1.alloc (.cells #[.int .i64 h.life, .int .i64 (h.count + 1), .map n1, .map n2] 41)).cell? ⟨w.heap.size, 1, none⟩ = some (.int .i64 margin)) ∧ Only w.heap.size w.heap.size w (W1.alloc (.cells #[.int .i64 h.life, .int .i64 (h.count + 1), .map n1, .map n2] 41))) := by
          have hv := HL.out
          have o1 : Only wr.heap.size wr.heap.size wr (W1.alloc (.cells #[.int .i64 h.life, .int .i64 (h.count + 1), .map n1, .map n2] 41)) := hob.out.alloc _
          have s1 := hv.only.size
          have s2 := hob.out.size
          have s3 := hv.var.lt
          refine ⟨⟨HV1.out, hv.var.kept o1, by omega, fun g hg => Nat.lt_of_lt_of_le (World.ownsRow.lt hv.own g hg).2 s2⟩, hv.own.grown o1, ⟨?_, ?_⟩, hv.only.then o1 s1⟩
          · rw [o1.cell (by show w.heap.size < _; omega) (.inl (by show w.heap.size < _; omega))]; exact hv.p0
          · rw [o1.cell (by show w.heap.size < _; omega) (.inl (by show w.heap.size < _; omega))]; exact hv.p1
        generalize (W1.alloc (.cells #[.int .i64 h.life, .int .i64 (h.count + 1), .map n1, .map n2] 41)) = wo at HF ⊢
        clear HV1 hob c0 c1 c2 c3 cf p0 p1 hc
        have hcl : l.length ≤ capv := HL.out.own.row.elim fun a' ⟨c', hv, hs⟩ => by
          simp at hv
          obtain ⟨rfl, rfl⟩ := hv
          exact hs.le
        have hl30 : l.length ≤ 30 := by have := HL.out.ok.2.2.2.2.2.2.1; omega
        go_loopw [64] (fun kv wr2 => ∃ k : Nat, k ≤ l.length ∧ kv = .int .i64 k ∧ Only wo.heap.size wo.heap.size wo wr2) (fun kv _ => l.length - (intOf kv).toNat)
        case atStart => exact ⟨0, Nat.zero_le _, rfl, Only.refl _ _ _⟩
        case round =>
          obtain ⟨k, hk, rfl, ho2⟩ := hrel
          by_cases hkl : k < l.length
          · have HVr := HF.out.1.1.kept ho2
            obtain ⟨c0, c1, c2, c3, cf⟩ := HVr.box
            dsimp only [lvNext] at c0 c1
            have HVr' := Lib.hid HVr
            have p0 := (ho2.cell (p := ⟨w.heap.size, 0, none⟩) (by have := HF.out.1.2.1.lt; show w.heap.size < _; omega) (.inl (by have := HF.out.1.2.1.lt; show w.heap.size < _; omega))).trans HF.out.2.2.1.1
            have p1 := (ho2.cell (p := ⟨w.heap.size, 1, none⟩) (by have := HF.out.1.2.1.lt; show w.heap.size < _; omega) (.inl (by have := HF.out.1.2.1.lt; show w.heap.size < _; omega))).trans HF.out.2.2.1.2
            obtain ⟨g, o2, rfl, hg, hgc⟩ := HF.out.2.1.again.addr (by omega)
            have hn : wr.cell? ⟨g, o2 + k, none⟩ = some (.int .i64 (nth l k)) := (ho2.cell (by exact hg) (.inl (by exact hg))).trans (hgc k hkl)
            have HO2 := Lib.hid ho2
            have hkl' : (k : Int) < (l.length : Int) := by omega
            have HLT : Hid (nth l k < lvNum h) := Lib.hid (lv_ne HL.out.ok (by rw [nth_of hkl]; exact List.getElem_mem hkl))
            have hne : ¬ nth l k = lvNum h := by have := HLT.out; omega
            have hned : decide (nth l k = lvNum h) = false := decide_eq_false hne
            have h6 : Hid ((lvNext h i).has.length < 1000000) := Lib.hid (by have := HL.out.ok.2.2.2.2.2.1; simp [lvNext, this])
            clear HVr hgc ho2
            go_wp2_with (go_at_call 27; refine (grant_any _ _ (lvNext h i) i term margin 1 (nth l k) 1 HVr'.out.is (WalkArith.wf_i64 (by decide)) h6.out).mono ?_; rw [lv_old term margin HLT.out]; rintro e W2 ⟨v, rfl, ⟨y1, y2, rfl, x1', x2'⟩, ho'⟩; have HO3 := Lib.hid ho'; clear x1' x2' ho'; unfold hval)
            go_roundw
            case rel => exact ⟨k + 1, by omega, by go_num, ((HO2.out.then HO3.out HO2.out.size).alloc _)⟩
            case measure => simp [intOf]; omega
          · obtain rfl : k = l.length := by omega
            have hb1 := build1
            have HOW : Hid (Own (wr.alloc (.cells #[.int .i64 (lvNum h)] 3)) (w.heap.size + 2) (.slice av l.length capv) l) := Lib.hid ((HF.out.2.1.grown ho2).grown ((Only.refl _ _ _).alloc _))
            have HO2 := Lib.hid ho2
            clear ho2
            go_wp2_with (at_builtin; refine wpList_append_ints _ rfl _ _ rfl (w.heap.size + 2) _ l [lvNum h] rfl HOW.out _ 1 (wr.heap.size + 1) rfl (sl_one wr (lvNum h)) (by simp; omega) (by have := HF.out.1.2.2.1; have := HF.out.1.1.lt; have := HO2.out.size; simp; omega) ?_; intro v' w5 hown' hg'; have HOW' := Lib.hid hown'; have o3 : Only wo.heap.size wo.heap.size wo (wr.alloc (.cells #[.int .i64 (lvNum h)] 3)) := HO2.out.alloc _; have HT := Lib.hid ((HF.out.1.1.kept o3).grown_own HOW.out hg' HF.out.1.2.2.2 (.inr (Nat.le_refl _))); have HU := Lib.hid ((HF.out.1.2.1.kept o3).grown_own HOW.out hg' HF.out.1.2.2.2 (.inl (by omega))); have X3 := Lib.hid o3; have X5 := Lib.hid (own_grown HOW.out hg' HF.out.1.2.2.2); clear hown' hg' o3; obtain ⟨c0, c1, c2, c3, cf⟩ := HT.out.box; dsimp only [lvNext] at c0 c1; obtain ⟨k0, k1, k2, k3⟩ := HU.out.box.keys; obtain ⟨d0, d1, d2, d3, df⟩ := HU.out.box)
            have HX : Hid (Lv w (World.four w5 (w.heap.size + 1) h.life (h.count + 1) n1 n2) term margin (i + 1) (lvNext h i) n1 n2 v' (l ++ [lvNum h])) := by
              have h4 := four_only w5 (w.heap.size + 1) h.life (h.count + 1) n1 n2
              have s1 := HF.out.1.2.2.1
              have s2 := HF.out.1.2.1.lt
              have s3 := X3.out.size
              have s4 := X5.out.size
              have s5 := HF.out.2.2.2.size
              have hcc : ∀ j x, wo.cell? ⟨w.heap.size, j, none⟩ = some x → (World.four w5 (w.heap.size + 1) h.life (h.count + 1) n1 n2).cell? ⟨w.heap.size, j, none⟩ = some x := fun j x hx => by
                rw [h4.cell (by show w.heap.size < _; omega) (.inl (by show w.heap.size < _; omega)), X5.out.cell (by show w.heap.size < _; omega) (.inl (by show w.heap.size < _; omega)), X3.out.cell (by show w.heap.size < _; omega) (.inl (by show w.heap.size < _; omega))]; exact hx
              exact ⟨HU.out.set (h' := lvNext h i) HT.out.wants HT.out.has, HOW'.out.keptOnly h4 (Nat.le_refl _), hcc 0 _ HF.out.2.2.1.1, hcc 1 _ HF.out.2.2.1.2, ((HF.out.2.2.2.then X3.out s5).fresh (X5.out.mono (by omega) (Nat.le_refl _))).fresh (h4.mono (by omega) (Nat.le_refl _)), lv_next HL.out.ok⟩
            unfold World.four at HX
            go_roundw
            case rel => exact ⟨i + 1, _, _, _, _, by go_num, by omega, by omega, HX.out⟩
            case measure => simp [intOf]; omega
    · have hfin : decide ((i : Int) < (len : Int) ∧ (i : Int) < 30) = false := decide_eq_false (by omega)
      have HL := Lib.hid hlv.only
      clear hlv
      by_cases h1 : i < len
      · have h2 : ¬ ((i : Int) < 30) := by omega
        go_wp2_with (go_at_call 25; refine (awake19 _).mono ?_; rintro e W4 ⟨rfl, ho'⟩)
        go_ret
        exact ⟨rfl, HL.out.then ho' HL.out.size⟩
      · have h2 : ¬ ((i : Int) < (len : Int)) := by omega
        go_wp2_with (go_at_call 25; refine (awake19 _).mono ?_; rintro e W4 ⟨rfl, ho'⟩)
        go_ret
        exact ⟨rfl, HL.out.then ho' HL.out.size⟩
end Go.Proofs.Ytefllgpehhlkoaa
