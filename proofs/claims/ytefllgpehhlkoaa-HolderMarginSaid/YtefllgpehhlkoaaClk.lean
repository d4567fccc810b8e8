/-
  The clocks of layer 17: what each function of package clock comes to, in words of plain functions (YtefllgpehhlkoaaPlain).
-/
import Derived.Test.YtefllgpehhlkoaaRow
import Derived.Test.YtefllgpehhlkoaaPlain
import Derived.Test.YtefllgpehhlkoaaHeads
import Derived.WalkSpells
import Derived.WalkLawsBesides
import Derived.BigQuiet
import Derived.BigRegion
import Derived.Deep.QuietTactic
import Derived.Deep.OwnRows
namespace Go.Proofs.Ytefllgpehhlkoaa
open Go.RowKit


theorem cs_block (w : World) {b1 b2 o1 o2 : Nat} (v : Value) (h : b1 ≠ b2) : (w.setCell ⟨b1, o1, none⟩ v).cell? ⟨b2, o2, none⟩ = w.cell? ⟨b2, o2, none⟩ :=
  World.cell?_setCell_other _ _ _ _ (fun e => h (congrArg Addr.block e))
theorem cs_off (w : World) {b1 b2 o1 o2 : Nat} (v : Value) (h : o1 ≠ o2) : (w.setCell ⟨b1, o1, none⟩ v).cell? ⟨b2, o2, none⟩ = w.cell? ⟨b2, o2, none⟩ :=
  World.cell?_setCell_other _ _ _ _ (fun e => h (congrArg Addr.off e))

/-- A Clocks value at block p of n clocks, its rows in blocks a, b, c, all from lo on and below hi. -/
structure ClkAt (w : World) (lo hi p a b c n : Nat) (s : St) : Prop where
  c0 : ∃ k, n ≤ k ∧ w.cell? ⟨p, 0, none⟩ = some (.slice (some ⟨a, 0, none⟩) n k)
  c1 : ∃ k, n ≤ k ∧ w.cell? ⟨p, 1, none⟩ = some (.slice (some ⟨b, 0, none⟩) n k)
  c2 : ∃ k, n ≤ k ∧ w.cell? ⟨p, 2, none⟩ = some (.slice (some ⟨c, 0, none⟩) n k)
  f0 : ∀ i, w.frozen? ⟨a, i, none⟩ = false
  f1 : ∀ i, w.frozen? ⟨b, i, none⟩ = false
  f2 : ∀ i, w.frozen? ⟨c, i, none⟩ = false
  x0 : ∀ i, i < n → w.cell? ⟨a, i, none⟩ = some (.int .i64 (s.N i))
  x1 : ∀ i, i < n → w.cell? ⟨b, i, none⟩ = some (.int .i64 (s.L i))
  x2 : ∀ i, i < n → w.cell? ⟨c, i, none⟩ = some (.int .i64 (s.H i))
  pa : p ≠ a
  pb : p ≠ b
  pc : p ≠ c
  ab : a ≠ b
  ac : a ≠ c
  bc : b ≠ c
  sp : lo ≤ p ∧ p < hi ∧ p < w.heap.size
  sa : lo ≤ a ∧ a < hi ∧ a < w.heap.size
  sb : lo ≤ b ∧ b < hi ∧ b < w.heap.size
  sc : lo ≤ c ∧ c < hi ∧ c < w.heap.size

def Clk (w : World) (lo hi p n : Nat) (s : St) : Prop := ∃ a b c, ClkAt w lo hi p a b c n s

/-- Clocks are what they were where only other blocks have turned. -/
theorem ClkAt.kept {w w' : World} {lo hi p a b c n lo' hi' : Nat} {s : St} (h : ClkAt w lo hi p a b c n s) (o : Only lo' hi' w w') (ho : hi ≤ lo' ∨ hi' ≤ lo) : ClkAt w' lo hi p a b c n s := by
  have hs := o.size
  obtain ⟨⟨k0, hk0, c0⟩, ⟨k1, hk1, c1⟩, ⟨k2, hk2, c2⟩, f0, f1, f2, x0, x1, x2, pa, pb, pc, ab, ac, bc, sp, sa, sb, sc⟩ := h
  exact ⟨⟨k0, hk0, by rw [o.cell (by exact sp.2.2) (by simp only; omega)]; exact c0⟩, ⟨k1, hk1, by rw [o.cell (by exact sp.2.2) (by simp only; omega)]; exact c1⟩, ⟨k2, hk2, by rw [o.cell (by exact sp.2.2) (by simp only; omega)]; exact c2⟩,
    fun i => by rw [o.frozen (by exact sa.2.2) (by simp only; omega)]; exact f0 i, fun i => by rw [o.frozen (by exact sb.2.2) (by simp only; omega)]; exact f1 i, fun i => by rw [o.frozen (by exact sc.2.2) (by simp only; omega)]; exact f2 i,
    fun i hi => by rw [o.cell (by exact sa.2.2) (by simp only; omega)]; exact x0 i hi, fun i hi => by rw [o.cell (by exact sb.2.2) (by simp only; omega)]; exact x1 i hi, fun i hi => by rw [o.cell (by exact sc.2.2) (by simp only; omega)]; exact x2 i hi,
    pa, pb, pc, ab, ac, bc, ⟨sp.1, sp.2.1, by omega⟩, ⟨sa.1, sa.2.1, by omega⟩, ⟨sb.1, sb.2.1, by omega⟩, ⟨sc.1, sc.2.1, by omega⟩⟩
theorem Clk.kept {w w' : World} {lo hi p n lo' hi' : Nat} {s : St} (h : Clk w lo hi p n s) (o : Only lo' hi' w w') (ho : hi ≤ lo' ∨ hi' ≤ lo) : Clk w' lo hi p n s := by
  obtain ⟨a, b, c, h⟩ := h
  exact ⟨a, b, c, h.kept o ho⟩
/-- only the first n of each count -/
theorem ClkAt.congr {w : World} {lo hi p a b c n : Nat} {s s' : St} (h : ClkAt w lo hi p a b c n s) (hN : ∀ i, i < n → s.N i = s'.N i) (hL : ∀ i, i < n → s.L i = s'.L i) (hH : ∀ i, i < n → s.H i = s'.H i) : ClkAt w lo hi p a b c n s' :=
  { h with x0 := fun i hi => by rw [← hN i hi]; exact h.x0 i hi, x1 := fun i hi => by rw [← hL i hi]; exact h.x1 i hi, x2 := fun i hi => by rw [← hH i hi]; exact h.x2 i hi }
theorem ClkAt.drew {w : World} {lo hi p a b c n : Nat} {s : St} (h : ClkAt w lo hi p a b c n s) : ClkAt w.drew lo hi p a b c n s := ⟨h.c0, h.c1, h.c2, h.f0, h.f1, h.f2, h.x0, h.x1, h.x2, h.pa, h.pb, h.pc, h.ab, h.ac, h.bc, h.sp, h.sa, h.sb, h.sc⟩
/-- a store into the first row -/
theorem ClkAt.setN {w : World} {lo hi p a b c n : Nat} {s : St} (h : ClkAt w lo hi p a b c n s) (k : Nat) (v : Int) (hk : k < n) : ClkAt (w.setCell ⟨a, k, none⟩ (.int .i64 v)) lo hi p a b c n { s with N := fun j => if j = k then v else s.N j } := by
  obtain ⟨⟨k0, hk0, c0⟩, ⟨k1, hk1, c1⟩, ⟨k2, hk2, c2⟩, f0, f1, f2, x0, x1, x2, pa, pb, pc, ab, ac, bc, sp, sa, sb, sc⟩ := h
  refine ⟨⟨k0, hk0, ?_⟩, ⟨k1, hk1, ?_⟩, ⟨k2, hk2, ?_⟩, ?_, ?_, ?_, ?_, ?_, ?_, pa, pb, pc, ab, ac, bc, ?_, ?_, ?_, ?_⟩
  all_goals first
    | (rw [cs_block _ _ (by omega)]; assumption)
    | (intro i; rw [World.frozen?_setCell]; first | exact f0 i | exact f1 i | exact f2 i)
    | (simpa using sp) | (simpa using sa) | (simpa using sb) | (simpa using sc)
    | (intro i hi; rw [cs_block _ _ (by omega)]; first | exact x1 i hi | exact x2 i hi)
    | skip
  intro i hi
  by_cases e : i = k
  · subst e; rw [World.cell?_setCell_same _ _ _ (x0 i hi)]; simp
  · rw [cs_off _ _ (by omega), x0 i hi]; simp [e]
theorem ClkAt.setL {w : World} {lo hi p a b c n : Nat} {s : St} (h : ClkAt w lo hi p a b c n s) (k : Nat) (v : Int) (hk : k < n) : ClkAt (w.setCell ⟨b, k, none⟩ (.int .i64 v)) lo hi p a b c n { s with L := fun j => if j = k then v else s.L j } := by
  obtain ⟨⟨k0, hk0, c0⟩, ⟨k1, hk1, c1⟩, ⟨k2, hk2, c2⟩, f0, f1, f2, x0, x1, x2, pa, pb, pc, ab, ac, bc, sp, sa, sb, sc⟩ := h
  refine ⟨⟨k0, hk0, ?_⟩, ⟨k1, hk1, ?_⟩, ⟨k2, hk2, ?_⟩, ?_, ?_, ?_, ?_, ?_, ?_, pa, pb, pc, ab, ac, bc, ?_, ?_, ?_, ?_⟩
  all_goals first
    | (rw [cs_block _ _ (by omega)]; assumption)
    | (intro i; rw [World.frozen?_setCell]; first | exact f0 i | exact f1 i | exact f2 i)
    | (simpa using sp) | (simpa using sa) | (simpa using sb) | (simpa using sc)
    | (intro i hi; rw [cs_block _ _ (by omega)]; first | exact x0 i hi | exact x2 i hi)
    | skip
  intro i hi
  by_cases e : i = k
  · subst e; rw [World.cell?_setCell_same _ _ _ (x1 i hi)]; simp
  · rw [cs_off _ _ (by omega), x1 i hi]; simp [e]
theorem ClkAt.setH {w : World} {lo hi p a b c n : Nat} {s : St} (h : ClkAt w lo hi p a b c n s) (k : Nat) (v : Int) (hk : k < n) : ClkAt (w.setCell ⟨c, k, none⟩ (.int .i64 v)) lo hi p a b c n { s with H := fun j => if j = k then v else s.H j } := by
  obtain ⟨⟨k0, hk0, c0⟩, ⟨k1, hk1, c1⟩, ⟨k2, hk2, c2⟩, f0, f1, f2, x0, x1, x2, pa, pb, pc, ab, ac, bc, sp, sa, sb, sc⟩ := h
  refine ⟨⟨k0, hk0, ?_⟩, ⟨k1, hk1, ?_⟩, ⟨k2, hk2, ?_⟩, ?_, ?_, ?_, ?_, ?_, ?_, pa, pb, pc, ab, ac, bc, ?_, ?_, ?_, ?_⟩
  all_goals first
    | (rw [cs_block _ _ (by omega)]; assumption)
    | (intro i; rw [World.frozen?_setCell]; first | exact f0 i | exact f1 i | exact f2 i)
    | (simpa using sp) | (simpa using sa) | (simpa using sb) | (simpa using sc)
    | (intro i hi; rw [cs_block _ _ (by omega)]; first | exact x0 i hi | exact x1 i hi)
    | skip
  intro i hi
  by_cases e : i = k
  · subst e; rw [World.cell?_setCell_same _ _ _ (x2 i hi)]; simp
  · rw [cs_off _ _ (by omega), x2 i hi]; simp [e]

theorem now_none (w : World) (lo hi p n : Nat) (s : St) (h : Clk w lo hi p n s) (i : Int) (hn : n ≤ 8) (hi : i < 0 ∨ (n : Int) ≤ i) :
    Calls Try.prog 21 #[.pointer (some ⟨p, 0, none⟩), .int .i64 i] w fun e w' => e = .returned (.int .i64 (-1)) ∧ w = w' := by
  obtain ⟨a, b, c, ⟨k0, -, c0⟩, -, -, -, -, -, -, -, -, -, -, -, -, -, -, -, -, -, -⟩ := h
  rcases hi with hi | hi
  · go_enter Try.func21, Try.ntmps21
    go_wp2
    go_ret
    exact ⟨rfl, rfl⟩
  · have h0 : ¬ i < 0 := by omega
    go_enter Try.func21, Try.ntmps21
    go_wp2
    go_ret
    exact ⟨rfl, rfl⟩
theorem now_some (w : World) (lo hi p n : Nat) (s : St) (h : Clk w lo hi p n s) (i : Nat) (_hn : n ≤ 8) (hi : i < n) :
    Calls Try.prog 21 #[.pointer (some ⟨p, 0, none⟩), .int .i64 i] w fun e w' => e = .returned (.int .i64 (s.N i)) ∧ w = w' := by
  obtain ⟨a, b, c, ⟨k0, -, c0⟩, -, -, -, -, -, x0, -, -, -, -, -, -, -, -, -, -, -, -⟩ := h
  have hc := x0 i hi
  clear x0
  go_enter Try.func21, Try.ntmps21
  go_wp2
  go_ret
  exact ⟨rfl, rfl⟩
theorem drift_none (w : World) (lo hi p n : Nat) (s : St) (h : Clk w lo hi p n s) (i : Int) (hn : n ≤ 8) (hi : i < 0 ∨ (n : Int) ≤ i) :
    Calls Try.prog 23 #[.pointer (some ⟨p, 0, none⟩), .int .i64 i] w fun e w' => e = .returned (.int .i64 (-1)) ∧ w = w' := by
  obtain ⟨a, b, c, ⟨k0, -, c0⟩, -, -, -, -, -, -, -, -, -, -, -, -, -, -, -, -, -, -⟩ := h
  rcases hi with hi | hi
  · go_enter Try.func23, Try.ntmps23
    go_wp2
    go_ret
    exact ⟨rfl, rfl⟩
  · have h0 : ¬ i < 0 := by omega
    go_enter Try.func23, Try.ntmps23
    go_wp2
    go_ret
    exact ⟨rfl, rfl⟩
theorem drift_some (w : World) (lo hi p n K : Nat) (s : St) (h : Clk w lo hi p n s) (hb : s.Bd K) (hK : K ≤ 1000000000) (i : Nat) (_hn : n ≤ 8) (hi : i < n) :
    Calls Try.prog 23 #[.pointer (some ⟨p, 0, none⟩), .int .i64 i] w fun e w' => e = .returned (.int .i64 (s.drift i)) ∧ ∃ m, w' = w.drewN m := by
  obtain ⟨a, b, c, ⟨k0, -, c0⟩, ⟨k1, -, c1⟩, ⟨k2, -, c2⟩, -, -, -, x0, x1, x2, -, -, -, -, -, -, -, -, -, -⟩ := h
  have hc0 := x0 i hi
  have hc1 := x1 i hi
  have hc2 := x2 i hi
  have hb1 := hb.2.1 i
  have hb2 := hb.2.2 i
  obtain ⟨l1, l2⟩ := hb1
  obtain ⟨l3, l4⟩ := hb2
  have hh1 : -1000000000 ≤ s.L i := by omega
  have hh2 : s.H i ≤ 1000000000 := by omega
  have hi0 : (0 : Int) ≤ (i : Int) := by omega
  have hi1 : (i : Int) < (n : Int) := by omega
  clear x0 x1 x2 hb
  go_enter Try.func23, Try.ntmps23
  go_wp2
  go_quiet (fail)
  go_wp2
  go_ret
  exact ⟨rfl, _, rfl⟩
set_option maxRecDepth 100000 in
theorem tick_none (w : World) (lo hi p n : Nat) (s : St) (h : Clk w lo hi p n s) (i : Int) (hn : n ≤ 8) (hi : i < 0 ∨ (n : Int) ≤ i) :
    Calls Try.prog 19 #[.pointer (some ⟨p, 0, none⟩), .int .i64 i] w fun e w' => e = .returned (.int .i64 8) ∧ w = w' := by
  obtain ⟨a, b, c, ⟨k0, -, c0⟩, -, -, -, -, -, -, -, -, -, -, -, -, -, -, -, -, -, -⟩ := h
  rcases hi with hi | hi
  · go_enter Try.func19, Try.ntmps19
    go_wp2
    go_ret
    exact ⟨rfl, rfl⟩
  · have h0 : ¬ i < 0 := by omega
    go_enter Try.func19, Try.ntmps19
    go_wp2
    go_ret
    exact ⟨rfl, rfl⟩
end Go.Proofs.Ytefllgpehhlkoaa
