/-
  Clocks: Copy.
-/
import Derived.Test.YtefllgpehhlkoaaSeen
import Derived.Deep.RegionHeld3
import Derived.Lib.SliceRun
namespace Go.Proofs.Ytefllgpehhlkoaa
open Go.RowKit

set_option maxHeartbeats 400000 in
theorem clone_any (w : World) (top b o cap : Nat) (l : List Int) (h : Sl w top (some ⟨b, o, none⟩) cap l) (ht : top ≤ w.heap.size) (hl : l.length ≤ 1000) :
    Calls Try.prog 54 #[.slice (some ⟨b, o, none⟩) l.length cap] w fun e w' => ∃ v, e = .returned v ∧ Own w' w.heap.size v l ∧ Only w.heap.size w.heap.size w w' := by
  have hb0 := build0
  have hown := Own.empty w w.heap.size (Nat.le_refl _)
  have HS : Hid (Sl (w.alloc (.cells #[] 3)) top (some ⟨b, o, none⟩) cap l) := h.kept ((Only.refl w.heap.size w.heap.size w).alloc _) ht ht
  have he := fun w => Lib.run_eql_slice_nil (P := Try.prog) w 22 3 (some ⟨b, o, none⟩) l.length cap 0 0 Try.underlying22
  clear h
  go_enter Try.func54, Try.ntmps54
  go_wp2_with (at_builtin; refine wpList_append_ints _ rfl _ _ rfl w.heap.size _ [] l rfl hown (some ⟨b, o, none⟩) cap top rfl HS.out ?_ ?_ ?_; exact (by simp; omega); exact (by simp); intro v' w' hown' hg)
  go_ret
  exact ⟨v', rfl, hown', ((Only.refl w.heap.size w.heap.size w).alloc _).fresh (Only.of_grown hg)⟩

/-- the first n numbers of f -/
def firsts (n : Nat) (f : Nat → Int) : List Int := (List.range n).map f
theorem firsts_len (n : Nat) (f : Nat → Int) : (firsts n f).length = n := by simp [firsts]
theorem firsts_nth (n : Nat) (f : Nat → Int) (i : Nat) (h : i < n) : nth (firsts n f) i = f i := by simp [nth, firsts, h]

/-- what a copy of one row leaves -/
def Cloned (w : World) (p n : Nat) (x0 x1 x2 : Value) (f : Nat → Int) (W : World) (e : Ending) (W' : World) : Prop :=
  ∃ g cap, e = .returned (.slice (some ⟨g, 0, none⟩) n cap) ∧ (n ≤ cap ∧ W.heap.size ≤ g ∧ g < W'.heap.size ∧ (∀ i, i < n → W'.cell? ⟨g, i, none⟩ = some (.int .i64 (f i))) ∧ ∀ i, W'.frozen? ⟨g, i, none⟩ = false) ∧ Only W.heap.size W.heap.size W W' ∧ Only w.heap.size w.heap.size w W' ∧ W'.cell? ⟨p, 0, none⟩ = some x0 ∧ W'.cell? ⟨p, 1, none⟩ = some x1 ∧ W'.cell? ⟨p, 2, none⟩ = some x2

theorem Own.addr {w : World} {base : Nat} {v : Value} {l : List Int} (h : Own w base v l) (h0 : 0 < l.length) : ∃ g cap, v = .slice (some ⟨g, 0, none⟩) l.length cap ∧ base ≤ g ∧ g < w.heap.size ∧ (∀ i, i < l.length → w.cell? ⟨g, i, none⟩ = some (.int .i64 (nth l i))) ∧ ∀ i, w.frozen? ⟨g, i, none⟩ = false := by
  have hlt := World.ownsRow.lt h
  have hcells := @World.ownsRow.cells _ _ _ _ _ _ _ h
  obtain ⟨_, h | ⟨g, cap, cur, rfl, hg, hh, hn, hm, hs, ht⟩⟩ := h
  · omega
  · refine ⟨g, cap, rfl, hg, (hlt g rfl).2, fun i hi => ?_, fun i => by simp [World.frozen?, hh]⟩
    have := hcells (g := g) rfl i (.int .i64 (nth l i)) (by simp [nth, hi])
    by_cases hi0 : i = 0
    · subst hi0; simpa [Addr.add] using this
    · simpa [Addr.add, hi0] using this

set_option maxRecDepth 100000 in
set_option maxHeartbeats 1000000 in
theorem copy_any (w : World) (lo hi p n : Nat) (s : St) (h : Clk w lo hi p n s) (h1 : 1 ≤ n) (h8 : n ≤ 8) :
    Calls Try.prog 29 #[.pointer (some ⟨p, 0, none⟩)] w fun e w' => ∃ q, e = .returned (.pointer (some ⟨q, 0, none⟩)) ∧ Clk w' w.heap.size (q + 1) q n s ∧ Only w.heap.size w.heap.size w w' := by
  obtain ⟨a, b, c, hc⟩ := h
  obtain ⟨k0, hk0, c0⟩ := hc.c0
  obtain ⟨k1, hk1, c1⟩ := hc.c1
  obtain ⟨k2, hk2, c2⟩ := hc.c2
  have sp := hc.sp.2.2
  have gen : ∀ (x k : Nat) (f : Nat → Int), n ≤ k → x < w.heap.size → (∀ i, i < n → w.cell? ⟨x, i, none⟩ = some (.int .i64 (f i))) → ∀ W, Only w.heap.size w.heap.size w W →
      Calls Try.prog 54 #[.slice (some ⟨x, 0, none⟩) n k] W (Cloned w p n (.slice (some ⟨a, 0, none⟩) n k0) (.slice (some ⟨b, 0, none⟩) n k1) (.slice (some ⟨c, 0, none⟩) n k2) f W) := by
    intro x k f hnk hx hf W hW
    have hs : Sl W w.heap.size (some ⟨x, 0, none⟩) k (firsts n f) := by
      refine ⟨by rw [firsts_len]; exact hnk, fun h => by simp at h, .inr ⟨x, 0, rfl, hx, fun i hi => ?_⟩⟩
      rw [firsts_len] at hi
      rw [Nat.zero_add, firsts_nth _ _ _ hi, hW.cell (by exact hx) (.inl (by exact hx))]
      exact hf i hi
    have hcall := clone_any W w.heap.size x 0 k (firsts n f) hs hW.size (by rw [firsts_len]; omega)
    rw [firsts_len] at hcall
    refine hcall.mono fun e w' ⟨v, he, ho, hx'⟩ => ?_
    have hall := hW.then hx' hW.size
    obtain ⟨g, cap, rfl, hg1, hg2, hgc, hgf⟩ := ho.addr (by rw [firsts_len]; omega)
    obtain ⟨_, cap', hv', hs'⟩ := ho.row
    have hle := hs'.le
    simp only [Value.slice.injEq, true_and] at hv'
    rw [firsts_len] at he hgc hle
    refine ⟨g, cap, he, ⟨by omega, hg1, hg2, fun i hi => by rw [hgc i hi, firsts_nth _ _ _ hi], hgf⟩, hx', hall, by rw [hall.cell (by exact sp) (.inl (by exact sp))]; exact c0, by rw [hall.cell (by exact sp) (.inl (by exact sp))]; exact c1, by rw [hall.cell (by exact sp) (.inl (by exact sp))]; exact c2⟩
  have GA := Lib.hid (gen a k0 s.N hk0 hc.sa.2.2 hc.x0)
  have GB := Lib.hid (gen b k1 s.L hk1 hc.sb.2.2 hc.x1)
  have GC := Lib.hid (gen c k2 s.H hk2 hc.sc.2.2 hc.x2)
  have hO : Only w.heap.size w.heap.size w w.drew := (Only.refl _ _ w).drew
  have HO := Lib.hid hO
  clear gen hc hk0 hk1 hk2 hO
  go_enter Try.func29, Try.ntmps29
  go_wp2_with fail
  go_region_held3 (fun w' => w'.cell? ⟨p, 0, none⟩ = some (.slice (some ⟨a, 0, none⟩) n k0) ∧ w'.cell? ⟨p, 1, none⟩ = some (.slice (some ⟨b, 0, none⟩) n k1) ∧ w'.cell? ⟨p, 2, none⟩ = some (.slice (some ⟨c, 0, none⟩) n k2))
    (first | go_keep)
    (first
      | (go_at_call 54; (with_reducible refine (GA.out _ HO.out).mono ?_); rintro e W1 ⟨ga, capa, rfl, oa, xa, ya, sa0, sa1, sa2⟩; have YA := Lib.hid ya; have XA := Lib.hid (And.intro oa xa); clear oa xa ya)
      | (go_at_call 54; (with_reducible refine (GB.out _ YA.out).mono ?_); rintro e W2 ⟨gb, capb, rfl, ob, xb, yb, sb0, sb1, sb2⟩; have YB := Lib.hid yb; have XB := Lib.hid (And.intro ob xb); clear ob xb yb)
      | (go_at_call 54; (with_reducible refine (GC.out _ YB.out).mono ?_); rintro e W3 ⟨gc, capc, rfl, oc, xc, yc, sc0, sc1, sc2⟩; have YC := Lib.hid yc; have XC := Lib.hid (And.intro oc xc); clear oc xc yc))
  have HF : Hid (Clk (W3.alloc (.cells #[.slice (some ⟨ga, 0, none⟩) n capa, .slice (some ⟨gb, 0, none⟩) n capb, .slice (some ⟨gc, 0, none⟩) n capc] 117)) w.heap.size (W3.heap.size + 1) W3.heap.size n s ∧ Only w.heap.size w.heap.size w (W3.alloc (.cells #[.slice (some ⟨ga, 0, none⟩) n capa, .slice (some ⟨gb, 0, none⟩) n capb, .slice (some ⟨gc, 0, none⟩) n capc] 117))) := by
    obtain ⟨⟨a1, a2, a3, a4, a5⟩, ax⟩ := XA.out
    obtain ⟨⟨b1, b2, b3, b4, b5⟩, bx⟩ := XB.out
    obtain ⟨⟨d1, d2, d3, d4, d5⟩, dx⟩ := XC.out
    have az : w.heap.size ≤ ga := a2
    have bz := bx.size
    have dz := dx.size
    generalize hO : Obj.cells #[.slice (some ⟨ga, 0, none⟩) n capa, .slice (some ⟨gb, 0, none⟩) n capb, .slice (some ⟨gc, 0, none⟩) n capc] 117 = O
    have k1 : Only W2.heap.size W2.heap.size W2 (W3.alloc O) := dx.alloc _
    have k2 : Only W1.heap.size W1.heap.size W1 (W3.alloc O) := (bx.then dx (by omega)).alloc _
    have hnew : ∀ i : Nat, (W3.alloc O).cell? ⟨W3.heap.size, i, none⟩ = #[Value.slice (some ⟨ga, 0, none⟩) n capa, .slice (some ⟨gb, 0, none⟩) n capb, .slice (some ⟨gc, 0, none⟩) n capc][i]? := by
      intro i; rw [← hO, World.cell?_alloc_new]
    have hsz : (W3.alloc O).heap.size = W3.heap.size + 1 := by simp
    refine ⟨⟨ga, gb, gc, ?_⟩, YC.out.alloc _⟩
    exact ⟨⟨capa, a1, by rw [hnew]; rfl⟩, ⟨capb, b1, by rw [hnew]; rfl⟩, ⟨capc, d1, by rw [hnew]; rfl⟩,
      fun i => by rw [k2.frozen (by exact a3) (.inl (by exact a3))]; exact a5 i, fun i => by rw [k1.frozen (by exact b3) (.inl (by exact b3))]; exact b5 i,
      fun i => by rw [((Only.refl W3.heap.size 0 W3).alloc O).frozen (by exact d3) (.inl (by exact d3))]; exact d5 i,
      fun i hi => by rw [k2.cell (by exact a3) (.inl (by exact a3))]; exact a4 i hi, fun i hi => by rw [k1.cell (by exact b3) (.inl (by exact b3))]; exact b4 i hi,
      fun i hi => by rw [((Only.refl W3.heap.size 0 W3).alloc O).cell (by exact d3) (.inl (by exact d3))]; exact d4 i hi,
      by omega, by omega, by omega, by omega, by omega, by omega, by omega, by omega, by omega, by omega⟩
  go_wp2
  go_ret
  exact ⟨_, rfl, HF.out⟩
end Go.Proofs.Ytefllgpehhlkoaa
