/-
  The holder (layer 19): Granted whole; a state that lies in a variable.
-/
import Derived.Test.YtefllgpehhlkoaaHold6
namespace Go.Proofs.Ytefllgpehhlkoaa
open Go.RowKit

theorem grant_any (w : World) (v : Value) (h : HS) (now term margin place num epoch : Int) (hv : HIs w v h) (hk : (Lit.int .i64 place).wf = true) (hn : h.has.length < 1000000) :
    Calls Try.prog 27 #[v, .int .i64 now, .agg #[.int .i64 term, .int .i64 margin], .int .i64 place, .int .i64 num, .int .i64 epoch] w (Told w (grantH h now term margin place num epoch)) := by
  obtain ⟨life, count, wants, has⟩ := h
  obtain ⟨mw, mh, rfl, h1, h2⟩ := hv
  have hl := MapIs.look (w := ((w.alloc (.cells #[.int .i64 life, .int .i64 count, .map mw, .map mh] 41)).alloc (.cells #[.int .i64 term, .int .i64 margin] 37)).alloc (.cells #[.int .i64 0, .int .i64 0, .map none, .map none] 41)) (h1.kept ((((Only.refl w.heap.size w.heap.size w).alloc _).alloc _).alloc _) (by omega)) Try.underlying38 (zero119 _) place hk
  cases hm : mget wants place with
  | none => exact grant_none w life count now term margin place num epoch wants has mw mh h1 h2 hl hm (by simp only [Hid, grantH, hm])
  | some x =>
    obtain ⟨n, t⟩ := x
    by_cases hne : n = num
    · subst hne
      have hb : ∀ b : Prop, ∀ _ : Decidable b, (b ↔ (term < 1 ∨ 1048576 < term ∨ margin < 0 ∨ 1048576 < margin ∨ now < 0 ∨ 1099511627776 < now ∨ t < 0 ∨ 1099511627776 < t)) → b → grantH ⟨life, count, wants, has⟩ now term margin place n epoch = (⟨life, count, wants, has⟩, 1) := by
        intro b _ hb hbt
        have := hb.1 hbt
        simp only [grantH, hm]
        rw [if_pos trivial, if_pos this]
      have hbad : (term < 1 ∨ 1048576 < term ∨ margin < 0 ∨ 1048576 < margin ∨ now < 0 ∨ 1099511627776 < now ∨ t < 0 ∨ 1099511627776 < t) → Hid (grantH ⟨life, count, wants, has⟩ now term margin place n epoch = (⟨life, count, wants, has⟩, 1)) := fun hc => hb _ inferInstance Iff.rfl hc
      by_cases c0 : term < 1
      · exact grant_arg0 w life count now term margin place n epoch wants has mw mh h1 h2 hl t hm (decide_eq_true c0) (hbad (by omega))
      have f0 : decide (term < 1) = false := decide_eq_false c0
      by_cases c1 : 1048576 < term
      · exact grant_arg1 w life count now term margin place n epoch wants has mw mh h1 h2 hl t hm f0 (decide_eq_true c1) (hbad (by omega))
      have f1 : decide (1048576 < term) = false := decide_eq_false c1
      by_cases c2 : margin < 0
      · exact grant_arg2 w life count now term margin place n epoch wants has mw mh h1 h2 hl t hm f0 f1 (decide_eq_true c2) (hbad (by omega))
      have f2 : decide (margin < 0) = false := decide_eq_false c2
      by_cases c3 : 1048576 < margin
      · exact grant_arg3 w life count now term margin place n epoch wants has mw mh h1 h2 hl t hm f0 f1 f2 (decide_eq_true c3) (hbad (by omega))
      have f3 : decide (1048576 < margin) = false := decide_eq_false c3
      by_cases c4 : now < 0
      · exact grant_arg4 w life count now term margin place n epoch wants has mw mh h1 h2 hl t hm f0 f1 f2 f3 (decide_eq_true c4) (hbad (by omega))
      have f4 : decide (now < 0) = false := decide_eq_false c4
      by_cases c5 : 1099511627776 < now
      · exact grant_arg5 w life count now term margin place n epoch wants has mw mh h1 h2 hl t hm f0 f1 f2 f3 f4 (decide_eq_true c5) (hbad (by omega))
      have f5 : decide (1099511627776 < now) = false := decide_eq_false c5
      by_cases c6 : t < 0
      · exact grant_arg6 w life count now term margin place n epoch wants has mw mh h1 h2 hl t hm f0 f1 f2 f3 f4 f5 (decide_eq_true c6) (hbad (by omega))
      have f6 : decide (t < 0) = false := decide_eq_false c6
      by_cases c7 : 1099511627776 < t
      · exact grant_arg7 w life count now term margin place n epoch wants has mw mh h1 h2 hl t hm f0 f1 f2 f3 f4 f5 f6 (decide_eq_true c7) (hbad (by omega))
      have f7 : decide (1099511627776 < t) = false := decide_eq_false c7
      have hbn : ¬ (term < 1 ∨ 1048576 < term ∨ margin < 0 ∨ 1048576 < margin ∨ now < 0 ∨ 1099511627776 < now ∨ t < 0 ∨ 1099511627776 < t) := by omega
      have rt : 1 ≤ term ∧ term ≤ 1048576 ∧ 0 ≤ margin ∧ margin ≤ 1048576 ∧ 0 ≤ t ∧ t ≤ 1099511627776 := by omega
      have hgr : grantH ⟨life, count, wants, has⟩ now term margin place n epoch = if t + term - margin ≤ now then (⟨life, count, mdel wants place, has⟩, 16) else (⟨life, count, mdel wants place, mput has place (epoch, until' has place epoch (t + term - margin))⟩, 0) := by
        simp only [grantH, hm]
        rw [if_pos trivial, if_neg hbn]
      by_cases cu : t + term - margin ≤ now
      · exact grant_late w life count now term margin place n epoch wants has mw mh h1 h2 hl t hm hk hn f0 f1 f2 f3 f4 f5 f6 f7 rt (decide_eq_true cu) (by rw [Hid, hgr, if_pos cu])
      · have fu : decide (t + term - margin ≤ now) = false := decide_eq_false cu
        rw [if_neg cu] at hgr
        cases hm2 : mget has place with
        | none => exact grant_new w life count now term margin place n epoch wants has mw mh h1 h2 hl t hm hk hn f0 f1 f2 f3 f4 f5 f6 f7 rt fu hm2 (by rw [Hid, hgr]; simp only [until', hm2])
        | some y =>
          obtain ⟨ep, un⟩ := y
          by_cases he : ep = epoch
          · subst he
            by_cases hx : un ≤ t + term - margin
            · exact grant_less w life count now term margin place n ep wants has mw mh h1 h2 hl t hm hk hn f0 f1 f2 f3 f4 f5 f6 f7 rt fu un hm2 hx (by rw [Hid, hgr]; simp only [until', hm2]; rw [if_pos trivial, Int.max_eq_left hx])
            · exact grant_more w life count now term margin place n ep wants has mw mh h1 h2 hl t hm hk hn f0 f1 f2 f3 f4 f5 f6 f7 rt fu un hm2 (by omega) (by rw [Hid, hgr]; simp only [until', hm2]; rw [if_pos trivial, Int.max_eq_right (by omega)])
          · exact grant_other w life count now term margin place n epoch wants has mw mh h1 h2 hl t hm hk hn f0 f1 f2 f3 f4 f5 f6 f7 rt fu ep un hm2 he (decide_eq_false he) (by rw [Hid, hgr]; simp only [until', hm2]; rw [if_neg he])
    · exact grant_old w life count now term margin place num epoch wants has mw mh h1 h2 hl n t hm hne (decide_eq_false hne) (by simp only [Hid, grantH, hm]; rw [if_neg hne])

/-! ### a state that lies in a variable -/
theorem MapAt.no_cell {α : Type} {E : Elem α} {w : World} {b i : Nat} {es : List (Int × α)} (h : MapAt E w b es) : w.cell? ⟨b, i, none⟩ = none := by
  obtain ⟨arr, clock, hb, _⟩ := h.reads
  simp [World.cell?, hb]
/-- the variable at block b holds the state h -/
structure HVar (w : World) (b : Nat) (h : HS) (m1 m2 : Option Nat) : Prop where
  box : Box w b h.life h.count m1 m2
  wants : MapIs pairE w m1 h.wants
  has : MapIs pairE w m2 h.has
  lt : b < w.heap.size
theorem HVar.is {w : World} {b : Nat} {h : HS} {m1 m2 : Option Nat} (k : HVar w b h m1 m2) : HIs w (hval h.life h.count m1 m2) h := ⟨m1, m2, rfl, k.wants, k.has⟩
theorem HVar.kept {w w' : World} {b : Nat} {h : HS} {m1 m2 : Option Nat} (k : HVar w b h m1 m2) (o : Only w.heap.size w.heap.size w w') : HVar w' b h m1 m2 :=
  ⟨k.box.kept o k.lt (.inl k.lt), k.wants.kept o (by omega), k.has.kept o (by omega), Nat.lt_of_lt_of_le k.lt o.size⟩
theorem HVar.new {w : World} {h : HS} {m1 m2 : Option Nat} (h1 : MapIs pairE w m1 h.wants) (h2 : MapIs pairE w m2 h.has) : HVar (w.alloc (.cells #[.int .i64 h.life, .int .i64 h.count, .map m1, .map m2] 41)) w.heap.size h m1 m2 :=
  ⟨Box.of (at_top _ _ _ rfl), h1.kept ((Only.refl w.heap.size w.heap.size w).alloc _) (by omega), h2.kept ((Only.refl w.heap.size w.heap.size w).alloc _) (by omega), by simp⟩
theorem MapIs.ne {α : Type} {E : Elem α} {w : World} {b : Nat} {m : Option Nat} {es : List (Int × α)} {l c : Int} {m1 m2 : Option Nat} (h : MapIs E w m es) (k : Box w b l c m1 m2) : ∀ x, m = some x → x ≠ b := by
  intro x hx e
  subst hx
  subst e
  have h' : MapAt E w x es := h
  have := h'.no_cell (i := 0)
  rw [k.c0] at this
  cases this
theorem Box.four {w : World} {b : Nat} {l c l' c' : Int} {m1 m2 n1 n2 : Option Nat} (k : Box w b l c m1 m2) : Box (World.four w b l' c' n1 n2) b l' c' n1 n2 := by
  have far : ∀ (W : World) (i j : Nat) (v : Value), i ≠ j → (W.setCell ⟨b, i, none⟩ v).cell? ⟨b, j, none⟩ = W.cell? ⟨b, j, none⟩ := fun W i j v hij => World.cell?_setCell_other _ _ _ _ (fun e => hij (congrArg Addr.off e))
  obtain ⟨k0, k1, k2, k3⟩ := k.keys
  unfold World.four
  refine ⟨?_, ?_, ?_, k3 _ _ _ _, fun i => ?_⟩
  · rw [far _ _ _ _ (by decide), far _ _ _ _ (by decide), far _ _ _ _ (by decide)]; exact k0 _
  · rw [far _ _ _ _ (by decide), far _ _ _ _ (by decide)]; exact k1 _ _
  · rw [far _ _ _ _ (by decide)]; exact k2 _ _ _
  · rw [World.frozen?_setCell, World.frozen?_setCell, World.frozen?_setCell, World.frozen?_setCell]; exact k.fr i
theorem MapIs.four {α : Type} {E : Elem α} {w : World} {b : Nat} {m : Option Nat} {es : List (Int × α)} {l c l' c' : Int} {m1 m2 n1 n2 : Option Nat} (h : MapIs E w m es) (k : Box w b l c m1 m2) : MapIs E (World.four w b l' c' n1 n2) m es :=
  h.kept (four_only w b l' c' n1 n2) (fun x hx => by have := h.ne k x hx; omega)
theorem HVar.set {w : World} {b : Nat} {h h' : HS} {m1 m2 n1 n2 : Option Nat} (k : HVar w b h m1 m2) (h1 : MapIs pairE w n1 h'.wants) (h2 : MapIs pairE w n2 h'.has) : HVar (World.four w b h'.life h'.count n1 n2) b h' n1 n2 :=
  ⟨k.box.four, h1.four k.box, h2.four k.box, Nat.lt_of_lt_of_le k.lt (four_only w b _ _ _ _).size⟩
/-- what was set -/
theorem HVar.other {w : World} {b b' : Nat} {h : HS} {m1 m2 : Option Nat} {l c : Int} {n1 n2 k1 k2 : Option Nat} {l' c' : Int} (k : HVar w b h m1 m2) (hb : Box w b' l' c' k1 k2) (hne : b ≠ b') : HVar (World.four w b' l c n1 n2) b h m1 m2 :=
  ⟨k.box.kept (four_only w b' l c n1 n2) k.lt (by omega), k.wants.four hb, k.has.four hb, Nat.lt_of_lt_of_le k.lt (four_only w b' _ _ _ _).size⟩
end Go.Proofs.Ytefllgpehhlkoaa
