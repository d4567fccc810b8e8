/-
  The document's holder (tillerref19): Wanted, Had, moment, unwant, unhave.
-/
import Derived.Test.YtefllgpehhlkoaaRefL
import Derived.Test.YtefllgpehhlkoaaTurnsA
namespace Go.Proofs.Ytefllgpehhlkoaa
open Go.RowKit Go.Maps
set_option linter.unusedVariables false

abbrev Rec3 := Int × (Int × Int)
def layW : Lay Rec3 where
  t := 87
  e := 133
  k := 3
  bytes := 24
  zero := .agg #[.int .i64 0, .int .i64 0, .int .i64 0]
  enc p := [p.1, p.2.1, p.2.2]
  pos := by decide
  len _ := rfl
  ht := Try.underlying87
  hi := by kernel_rfl
  hz := by kernel_rfl
  hb := by decide
def layH : Lay Rec3 where
  t := 88
  e := 137
  k := 3
  bytes := 24
  zero := .agg #[.int .i64 0, .int .i64 0, .int .i64 0]
  enc p := [p.1, p.2.1, p.2.2]
  pos := by decide
  len _ := rfl
  ht := Try.underlying88
  hi := by kernel_rfl
  hz := by kernel_rfl
  hb := by decide

/-- four cells of a block -/
structure RBox (w : World) (b : Nat) (x0 x1 x2 x3 : Value) : Prop where
  c0 : w.cell? ⟨b, 0, none⟩ = some x0
  c1 : w.cell? ⟨b, 1, none⟩ = some x1
  c2 : w.cell? ⟨b, 2, none⟩ = some x2
  c3 : w.cell? ⟨b, 3, none⟩ = some x3
  fr : ∀ i, w.frozen? ⟨b, i, none⟩ = false
theorem RBox.of {w : World} {b : Nat} {x0 x1 x2 x3 : Value} {t : TypeId} (h : w.heap[b]? = some (.cells #[x0, x1, x2, x3] t)) : RBox w b x0 x1 x2 x3 := by
  constructor <;> first | (intro i; simp [World.frozen?, h]) | simp [World.cell?, h]
theorem RBox.kept {w w' : World} {b lo hi : Nat} {x0 x1 x2 x3 : Value} (h : RBox w b x0 x1 x2 x3) (o : Only lo hi w w') (hb : b < w.heap.size) (hs : b < lo ∨ hi ≤ b) : RBox w' b x0 x1 x2 x3 :=
  ⟨by rw [o.cell (by exact hb) (by exact hs)]; exact h.c0, by rw [o.cell (by exact hb) (by exact hs)]; exact h.c1, by rw [o.cell (by exact hb) (by exact hs)]; exact h.c2, by rw [o.cell (by exact hb) (by exact hs)]; exact h.c3, fun i => by rw [o.frozen (by exact hb) (by exact hs)]; exact h.fr i⟩
theorem RBox.same {w w' : World} {b : Nat} {x0 x1 x2 x3 : Value} (h : RBox w b x0 x1 x2 x3) (hk : w'.heap[b]? = w.heap[b]?) : RBox w' b x0 x1 x2 x3 := by
  have hc : ∀ i, w'.cell? ⟨b, i, none⟩ = w.cell? ⟨b, i, none⟩ := fun i => World.cell?_of_block (w := w) hk
  have hf : ∀ i, w'.frozen? ⟨b, i, none⟩ = w.frozen? ⟨b, i, none⟩ := fun i => World.frozen?_of_block (w := w) hk
  exact ⟨by rw [hc]; exact h.c0, by rw [hc]; exact h.c1, by rw [hc]; exact h.c2, by rw [hc]; exact h.c3, fun i => by rw [hf]; exact h.fr i⟩
def World.rset (w : World) (b : Nat) (x0 x1 x2 x3 : Value) : World := (((w.setCell ⟨b, 0, none⟩ x0).setCell ⟨b, 1, none⟩ x1).setCell ⟨b, 2, none⟩ x2).setCell ⟨b, 3, none⟩ x3
theorem rset_only (w : World) (b : Nat) (x0 x1 x2 x3 : Value) : Only b (b + 1) w (World.rset w b x0 x1 x2 x3) :=
  ((((Only.refl _ _ w).setCell (.inr ⟨by simp, by simp⟩) _).setCell (.inr ⟨by simp, by simp⟩) _).setCell (.inr ⟨by simp, by simp⟩) _).setCell (.inr ⟨by simp, by simp⟩) _
theorem set_far (W : World) (b i j : Nat) (v : Value) (hij : i ≠ j) : (W.setCell ⟨b, i, none⟩ v).cell? ⟨b, j, none⟩ = W.cell? ⟨b, j, none⟩ := World.cell?_setCell_other _ _ _ _ (fun e => hij (congrArg Addr.off e))
theorem RBox.set {w : World} {b : Nat} {x0 x1 x2 x3 y0 y1 y2 y3 : Value} (k : RBox w b x0 x1 x2 x3) : RBox (World.rset w b y0 y1 y2 y3) b y0 y1 y2 y3 := by
  unfold World.rset
  refine ⟨?_, ?_, ?_, ?_, fun i => ?_⟩
  · rw [set_far _ _ _ _ _ (by decide), set_far _ _ _ _ _ (by decide), set_far _ _ _ _ _ (by decide)]; exact World.cell?_setCell_same _ _ _ k.c0
  · rw [set_far _ _ _ _ _ (by decide), set_far _ _ _ _ _ (by decide)]; exact World.cell?_setCell_same _ _ _ (by rw [set_far _ _ _ _ _ (by decide)]; exact k.c1)
  · rw [set_far _ _ _ _ _ (by decide)]; exact World.cell?_setCell_same _ _ _ (by rw [set_far _ _ _ _ _ (by decide), set_far _ _ _ _ _ (by decide)]; exact k.c2)
  · exact World.cell?_setCell_same _ _ _ (by rw [set_far _ _ _ _ _ (by decide), set_far _ _ _ _ _ (by decide), set_far _ _ _ _ _ (by decide)]; exact k.c3)
  · rw [World.frozen?_setCell, World.frozen?_setCell, World.frozen?_setCell, World.frozen?_setCell]; exact k.fr i
/-- one of the four is set -/
theorem RBox.set2 {w : World} {b : Nat} {x0 x1 x2 x3 : Value} (k : RBox w b x0 x1 x2 x3) (y : Value) : RBox (w.setCell ⟨b, 2, none⟩ y) b x0 x1 y x3 := by
  refine ⟨?_, ?_, ?_, ?_, fun i => ?_⟩
  · rw [set_far _ _ _ _ _ (by decide)]; exact k.c0
  · rw [set_far _ _ _ _ _ (by decide)]; exact k.c1
  · exact World.cell?_setCell_same _ _ _ k.c2
  · rw [set_far _ _ _ _ _ (by decide)]; exact k.c3
  · rw [World.frozen?_setCell]; exact k.fr i
theorem RBox.set3 {w : World} {b : Nat} {x0 x1 x2 x3 : Value} (k : RBox w b x0 x1 x2 x3) (y : Value) : RBox (w.setCell ⟨b, 3, none⟩ y) b x0 x1 x2 y := by
  refine ⟨?_, ?_, ?_, ?_, fun i => ?_⟩
  · rw [set_far _ _ _ _ _ (by decide)]; exact k.c0
  · rw [set_far _ _ _ _ _ (by decide)]; exact k.c1
  · rw [set_far _ _ _ _ _ (by decide)]; exact k.c2
  · exact World.cell?_setCell_same _ _ _ k.c3
  · rw [World.frozen?_setCell]; exact k.fr i
theorem set_only (w : World) (b i : Nat) (y : Value) : Only b (b + 1) w (w.setCell ⟨b, i, none⟩ y) := (Only.refl _ _ w).setCell (.inr ⟨by simp, by simp⟩) _

/-- a record's value -/
def rec3 (p : Rec3) : Value := .agg #[.int .i64 p.1, .int .i64 p.2.1, .int .i64 p.2.2]
def zrec3 : Rec3 := (0, (0, 0))
def Found3 (w : World) (o : Option Rec3) (e : Ending) (w' : World) : Prop := e = .returned (.tuple #[rec3 (o.getD zrec3), .bool o.isSome]) ∧ Only w.heap.size w.heap.size w w'
/-- the document's Wanted, Had -/
def findK (l : List Rec3) (place : Int) : Option Rec3 := l.find? fun p => p.1 == place
theorem findK_get (l : List Rec3) (place : Int) : findK l place = (mget l place).map fun x => (place, x) := by
  unfold findK mget
  induction l with
  | nil => rfl
  | cons p r ih =>
    rw [List.find?_cons]
    by_cases h : p.1 = place
    · subst h; simp
    · rw [beq_eq_false_iff_ne.2 h]; exact ih
theorem findK_none {l : List Rec3} {place : Int} {j : Nat} {y : Rec3} (h : findK (l.take j) place = none) (ht : l.take (j + 1) = l.take j ++ [y]) (hy : y.1 ≠ place) : findK (l.take (j + 1)) place = none := by
  unfold findK at h ⊢
  rw [ht, List.find?_append, h]
  simp [hy]
theorem findK_some {l : List Rec3} {place : Int} {j : Nat} {y : Rec3} (h : findK (l.take j) place = none) (ht : l.take (j + 1) = l.take j ++ [y]) (hy : y.1 = place) : findK l place = some y := by
  unfold findK at h ⊢
  rw [← List.take_append_drop (j + 1) l, List.find?_append, ht, List.find?_append, h]
  simp [hy]
def F3Rel (w : World) (l : List Rec3) (place : Int) (jv : Value) (W : World) : Prop :=
  ∃ j : Nat, jv = .int .i64 j ∧ j ≤ l.length ∧ findK (l.take j) place = none ∧ T3 W (w.heap.size + 1) 0 0 0 ∧ Only w.heap.size w.heap.size w W ∧ w.heap.size + 2 ≤ W.heap.size

theorem moment_yes (w : World) (n : Int) (h0 : 0 ≤ n) (h1 : n ≤ 1099511627776) : Calls Try.prog 59 #[.int .i64 n] w fun e w' => e = .returned (.bool true) ∧ w = w' := by
  go_enter Try.func59, Try.ntmps59
  go_wp2
  go_ret
  exact ⟨rfl, rfl⟩
theorem moment_no (w : World) (n : Int) (h : n < 0 ∨ 1099511627776 < n) : Calls Try.prog 59 #[.int .i64 n] w fun e w' => e = .returned (.bool false) ∧ w = w' := by
  rcases h with h | h
  · have hd : decide (0 ≤ n) = false := decide_eq_false (by omega)
    go_enter Try.func59, Try.ntmps59
    go_wp2
    go_ret
    exact ⟨rfl, rfl⟩
  · have h0 : 0 ≤ n := by omega
    have hd : decide (n ≤ 1099511627776) = false := decide_eq_false (by omega)
    go_enter Try.func59, Try.ntmps59
    go_wp2
    go_ret
    exact ⟨rfl, rfl⟩

set_option maxRecDepth 100000 in
set_option maxHeartbeats 1000000 in
theorem wanted_any (w : World) (life count place : Int) (v1 v2 : Value) (l : List Rec3) (h : ReadS layW w v1 l) :
    Calls Try.prog 61 #[.agg #[.int .i64 life, .int .i64 count, v1, v2], .int .i64 place] w (Found3 w (findK l place)) := by
  have hO : Hid (Only w.heap.size w.heap.size w w) := Lib.hid (Only.refl _ _ _)
  obtain ⟨a, cap, rfl, hl1, hl2, h3⟩ := h
  have H3 := Lib.hid h3
  clear h3
  go_enter Try.func61, Try.ntmps61
  go_wp2_with fail
  go_loopw [11] (fun jv W => F3Rel w l place jv W) (fun jv _ => l.length - (intOf jv).toNat)
  case atStart =>
    have h4 : T3 ((w.alloc (.cells #[.int .i64 life, .int .i64 count, .slice a l.length cap, v2] 90)).alloc (.cells #[.int .i64 0, .int .i64 0, .int .i64 0] 133)) (w.heap.size + 1) 0 0 0 := T3.of (top_at _ _ _ (by simp))
    exact ⟨0, rfl, Nat.zero_le _, rfl, h4, (hO.out.alloc _).alloc _, by simp⟩
  case round =>
    obtain ⟨j, rfl, hj, hf, h4, ho, hsz⟩ := hrel
    have HF := Lib.hid hf
    have H4 := Lib.hid h4
    have HO := Lib.hid ho
    have z0 := h4.c0
    have z1 := h4.c1
    have z2 := h4.c2
    have f0 := h4.fr 0
    have f1 := h4.fr 1
    have f2 := h4.fr 2
    clear hf h4
    by_cases hjl : j < l.length
    · obtain ⟨b, rfl, hb, hc⟩ : ∃ b, a = some ⟨b, 0, none⟩ ∧ b < w.heap.size ∧ ∀ i x, l[i]? = some x → ∀ k, k < 3 → w.cell? ⟨b, i * 3 + k, none⟩ = some (.int .i64 ((layW.enc x).getD k 0)) := by
        rcases H3.out with h0 | h0
        · rw [h0] at hjl; simp at hjl
        · exact h0
      have hg : l[j]? = some l[j] := List.getElem?_eq_getElem hjl
      have HT : Hid (l.take (j + 1) = l.take j ++ [l[j]]) := Lib.hid (List.take_succ_eq_append_getElem hjl)
      have hcc : ∀ k, k < 3 → wr.cell? ⟨b, j * 3 + k, none⟩ = some (.int .i64 ((layW.enc l[j]).getD k 0)) := fun k hk => (ho.cell (by exact hb) (.inl (by exact hb))).trans (hc j _ hg k hk)
      generalize l[j] = y at hcc HT
      obtain ⟨y0, y1, y2⟩ := y
      have p0 : wr.cell? ⟨b, j * 3, none⟩ = some (.int .i64 y0) := hcc 0 (by decide)
      have p1 : wr.cell? ⟨b, j * 3 + 1, none⟩ = some (.int .i64 y1) := hcc 1 (by decide)
      have p2 : wr.cell? ⟨b, j * 3 + 2, none⟩ = some (.int .i64 y2) := hcc 2 (by decide)
      clear hc hcc hg ho
      have HA := Lib.hid (H4.out.kept ((Only.refl wr.heap.size wr.heap.size wr).alloc (.cells #[.int .i64 y0, .int .i64 y1, .int .i64 y2] 133)) (by omega) (.inl (by omega)))
      have HOA := Lib.hid (HO.out.alloc (.cells #[.int .i64 y0, .int .i64 y1, .int .i64 y2] 133))
      by_cases hy : y0 = place
      · have HY := Lib.hid hy
        have hy1 : (y0 == place) = true := beq_iff_eq.2 hy
        clear hy
        have x0 := HA.out.c0
        have x1 := HA.out.c1
        have x2 := HA.out.c2
        have g0 := HA.out.fr 0
        have g1 := HA.out.fr 1
        have g2 := HA.out.fr 2
        go_wp2_with fail
        obtain ⟨⟨k0, k1, k2, _⟩, hSO⟩ := HA.out.set (x' := y0) (y' := y1) (z' := y2)
        refine bodyPost_ret (v := .tuple #[rec3 (y0, (y1, y2)), .bool true]) (by simp [results, Try.results61, go_sem, rec3, k0, k1, k2]) rfl ?_
        rw [findK_some HF.out HT.out HY.out]
        exact ⟨rfl, HOA.out.fresh (hSO.mono (by omega) (Nat.le_refl _))⟩
      · have hy3 : (y0 == place) = false := beq_eq_false_iff_ne.2 hy
        have HX : Hid (F3Rel w l place (.int .i64 ((j : Int) + 1)) (wr.alloc (.cells #[.int .i64 y0, .int .i64 y1, .int .i64 y2] 133))) := Lib.hid ⟨j + 1, by go_num, hjl, findK_none HF.out HT.out hy, HA.out, HOA.out, by simp; omega⟩
        clear hy
        go_wp2_with fail
        go_roundw
        case rel => exact HX.out
        case measure => simp [intOf]; omega
    · obtain rfl : j = l.length := by omega
      go_wp2_with fail
      obtain ⟨⟨k0, k1, k2, _⟩, hSO⟩ := H4.out.set (x' := 0) (y' := 0) (z' := 0)
      refine bodyPost_ret (v := .tuple #[rec3 zrec3, .bool false]) (by simp [results, Try.results61, go_sem, rec3, zrec3, k0, k1, k2]) rfl ?_
      have hn : findK l place = none := by have := HF.out; rwa [List.take_length] at this
      rw [hn]
      exact ⟨rfl, HO.out.fresh (hSO.mono (by omega) (Nat.le_refl _))⟩

set_option maxRecDepth 100000 in
set_option maxHeartbeats 1000000 in
theorem had_any (w : World) (life count place : Int) (v1 v2 : Value) (l : List Rec3) (h : ReadS layH w v2 l) :
    Calls Try.prog 62 #[.agg #[.int .i64 life, .int .i64 count, v1, v2], .int .i64 place] w (Found3 w (findK l place)) := by
  have hO : Hid (Only w.heap.size w.heap.size w w) := Lib.hid (Only.refl _ _ _)
  obtain ⟨a, cap, rfl, hl1, hl2, h3⟩ := h
  have H3 := Lib.hid h3
  clear h3
  go_enter Try.func62, Try.ntmps62
  go_wp2_with fail
  go_loopw [11] (fun jv W => F3Rel w l place jv W) (fun jv _ => l.length - (intOf jv).toNat)
  case atStart =>
    have h4 : T3 ((w.alloc (.cells #[.int .i64 life, .int .i64 count, v1, .slice a l.length cap] 90)).alloc (.cells #[.int .i64 0, .int .i64 0, .int .i64 0] 137)) (w.heap.size + 1) 0 0 0 := T3.of (top_at _ _ _ (by simp))
    exact ⟨0, rfl, Nat.zero_le _, rfl, h4, (hO.out.alloc _).alloc _, by simp⟩
  case round =>
    obtain ⟨j, rfl, hj, hf, h4, ho, hsz⟩ := hrel
    have HF := Lib.hid hf
    have H4 := Lib.hid h4
    have HO := Lib.hid ho
    have z0 := h4.c0
    have z1 := h4.c1
    have z2 := h4.c2
    have f0 := h4.fr 0
    have f1 := h4.fr 1
    have f2 := h4.fr 2
    clear hf h4
    by_cases hjl : j < l.length
    · obtain ⟨b, rfl, hb, hc⟩ : ∃ b, a = some ⟨b, 0, none⟩ ∧ b < w.heap.size ∧ ∀ i x, l[i]? = some x → ∀ k, k < 3 → w.cell? ⟨b, i * 3 + k, none⟩ = some (.int .i64 ((layH.enc x).getD k 0)) := by
        rcases H3.out with h0 | h0
        · rw [h0] at hjl; simp at hjl
        · exact h0
      have hg : l[j]? = some l[j] := List.getElem?_eq_getElem hjl
      have HT : Hid (l.take (j + 1) = l.take j ++ [l[j]]) := Lib.hid (List.take_succ_eq_append_getElem hjl)
      have hcc : ∀ k, k < 3 → wr.cell? ⟨b, j * 3 + k, none⟩ = some (.int .i64 ((layH.enc l[j]).getD k 0)) := fun k hk => (ho.cell (by exact hb) (.inl (by exact hb))).trans (hc j _ hg k hk)
      generalize l[j] = y at hcc HT
      obtain ⟨y0, y1, y2⟩ := y
      have p0 : wr.cell? ⟨b, j * 3, none⟩ = some (.int .i64 y0) := hcc 0 (by decide)
      have p1 : wr.cell? ⟨b, j * 3 + 1, none⟩ = some (.int .i64 y1) := hcc 1 (by decide)
      have p2 : wr.cell? ⟨b, j * 3 + 2, none⟩ = some (.int .i64 y2) := hcc 2 (by decide)
      clear hc hcc hg ho
      have HA := Lib.hid (H4.out.kept ((Only.refl wr.heap.size wr.heap.size wr).alloc (.cells #[.int .i64 y0, .int .i64 y1, .int .i64 y2] 137)) (by omega) (.inl (by omega)))
      have HOA := Lib.hid (HO.out.alloc (.cells #[.int .i64 y0, .int .i64 y1, .int .i64 y2] 137))
      by_cases hy : y0 = place
      · have HY := Lib.hid hy
        have hy1 : (y0 == place) = true := beq_iff_eq.2 hy
        clear hy
        have x0 := HA.out.c0
        have x1 := HA.out.c1
        have x2 := HA.out.c2
        have g0 := HA.out.fr 0
        have g1 := HA.out.fr 1
        have g2 := HA.out.fr 2
        go_wp2_with fail
        obtain ⟨⟨k0, k1, k2, _⟩, hSO⟩ := HA.out.set (x' := y0) (y' := y1) (z' := y2)
        refine bodyPost_ret (v := .tuple #[rec3 (y0, (y1, y2)), .bool true]) (by simp [results, Try.results62, go_sem, rec3, k0, k1, k2]) rfl ?_
        rw [findK_some HF.out HT.out HY.out]
        exact ⟨rfl, HOA.out.fresh (hSO.mono (by omega) (Nat.le_refl _))⟩
      · have hy3 : (y0 == place) = false := beq_eq_false_iff_ne.2 hy
        have HX : Hid (F3Rel w l place (.int .i64 ((j : Int) + 1)) (wr.alloc (.cells #[.int .i64 y0, .int .i64 y1, .int .i64 y2] 137))) := Lib.hid ⟨j + 1, by go_num, hjl, findK_none HF.out HT.out hy, HA.out, HOA.out, by simp; omega⟩
        clear hy
        go_wp2_with fail
        go_roundw
        case rel => exact HX.out
        case measure => simp [intOf]; omega
    · obtain rfl : j = l.length := by omega
      go_wp2_with fail
      obtain ⟨⟨k0, k1, k2, _⟩, hSO⟩ := H4.out.set (x' := 0) (y' := 0) (z' := 0)
      refine bodyPost_ret (v := .tuple #[rec3 zrec3, .bool false]) (by simp [results, Try.results62, go_sem, rec3, zrec3, k0, k1, k2]) rfl ?_
      have hn : findK l place = none := by have := HF.out; rwa [List.take_length] at this
      rw [hn]
      exact ⟨rfl, HO.out.fresh (hSO.mono (by omega) (Nat.le_refl _))⟩
end Go.Proofs.Ytefllgpehhlkoaa
