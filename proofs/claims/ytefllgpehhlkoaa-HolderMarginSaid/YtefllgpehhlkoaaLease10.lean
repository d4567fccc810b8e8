/-
  The lease (layer 18): begin, its rows of holdings.
-/
import Derived.Test.YtefllgpehhlkoaaLease9
import Derived.Test.YtefllgpehhlkoaaRowS
import Derived.Test.YtefllgpehhlkoaaMins
import Derived.Test.YtefllgpehhlkoaaOpens
namespace Go.Proofs.Ytefllgpehhlkoaa
open Go.RowKit Go.Maps

/-- a holding of the document's list -/
abbrev Rec4 := Int × (Int × Int × Int)
def hold4 : Lay Rec4 where
  t := 54
  e := 71
  k := 4
  bytes := 32
  zero := .agg #[.int .i64 0, .int .i64 0, .int .i64 0, .int .i64 0]
  enc p := [p.1, p.2.1, p.2.2.1, p.2.2.2]
  pos := by decide
  len _ := rfl
  ht := Try.underlying54
  hi := by kernel_rfl
  hz := rfl
  hb := by decide

section
variable {α : Type} {L : Lay α}
theorem OwnS.keptOnly {w w' : World} {base lo hi : Nat} {v : Value} {l : List α} (h : OwnS L w base v l) (o : Only lo hi w w') (hb : hi ≤ base) : OwnS L w' base v l := by
  have hlt := World.ownsRow.lt h
  obtain ⟨h1, h2 | ⟨g, cap, cur, hv, hg, hh, r⟩⟩ := h
  · exact ⟨h1, .inl h2⟩
  · refine ⟨h1, .inr ⟨g, cap, cur, hv, hg, ?_, r⟩⟩
    rw [o.block g (hlt g (by rw [hv]; rfl)).2 (by omega)]
    exact hh
theorem OwnS.upto {w w' : World} {base lo hi T : Nat} {v : Value} {l : List α} (h : OwnS L w base v l) (o : Only lo hi w w') (hT : ∀ g, v.ownBlock = some g → g < T) (hb : T ≤ lo) : OwnS L w' base v l := by
  have hlt := World.ownsRow.lt h
  obtain ⟨h1, h2 | ⟨g, cap, cur, hv, hg, hh, r⟩⟩ := h
  · exact ⟨h1, .inl h2⟩
  · refine ⟨h1, .inr ⟨g, cap, cur, hv, hg, ?_, r⟩⟩
    have := hT g (by rw [hv]; rfl)
    rw [o.block g (hlt g (by rw [hv]; rfl)).2 (by omega)]
    exact hh
theorem OwnS.grown {w w' : World} {base : Nat} {v : Value} {l : List α} (h : OwnS L w base v l) (o : Only w.heap.size w.heap.size w w') : OwnS L w' base v l :=
  h.upto o (fun g hg => (World.ownsRow.lt h g hg).2) (Nat.le_refl _)
theorem OwnS.mono {w : World} {base base' : Nat} {v : Value} {l : List α} (h : OwnS L w base v l) (hb : base' ≤ base) : OwnS L w base' v l := by
  obtain ⟨h1, h2 | ⟨g, cap, cur, hv, hg, r⟩⟩ := h
  · exact ⟨h1, .inl h2⟩
  · exact ⟨h1, .inr ⟨g, cap, cur, hv, Nat.le_trans hb hg, r⟩⟩
theorem OwnS.only {w w' : World} {base T : Nat} {v : Value} {l : List α} (h : OwnS L w base v l) (hg : w.grownBy w' v.ownBlock) (hT : ∀ g, v.ownBlock = some g → g < T) : Only base T w w' := by
  obtain ⟨_, h | ⟨g, cap, cur, rfl, hb, _⟩⟩ := h
  · obtain ⟨rfl, _⟩ := h
    exact Only.of_grown_none hg
  · exact (Only.of_grown hg).mono hb (hT g rfl)
theorem OwnS.blocks {w : World} {base : Nat} {v : Value} {l : List α} (h : OwnS L w base v l) : ∀ g, v.ownBlock = some g → base ≤ g ∧ g < w.heap.size := World.ownsRow.lt h
theorem OwnS.empty (w : World) (base : Nat) (hb : base ≤ w.heap.size) : OwnS L (w.alloc (.cells #[] L.e)) base (.slice (some ⟨w.heap.size, 0, none⟩) 0 0) [] := by
  have := World.ownsRow_lit (base := base) (e := L.e) (size := L.k) w #[] 0 hb (by unfold maxLen; omega) (by simp)
  simpa [OwnS, Lay.vals] using this
end

/-- the document's state as a value -/
def xval (epoch quiet : Int) (v : Value) : Value := .agg #[.int .i64 epoch, .int .i64 quiet, v]
/-- its three cells at block b -/
structure XBox (w : World) (b : Nat) (epoch quiet : Int) (v : Value) : Prop where
  c0 : w.cell? ⟨b, 0, none⟩ = some (.int .i64 epoch)
  c1 : w.cell? ⟨b, 1, none⟩ = some (.int .i64 quiet)
  c2 : w.cell? ⟨b, 2, none⟩ = some v
  fr : ∀ i, w.frozen? ⟨b, i, none⟩ = false
theorem XBox.of {w : World} {b : Nat} {epoch quiet : Int} {v : Value} {t : TypeId} (h : w.heap[b]? = some (.cells #[.int .i64 epoch, .int .i64 quiet, v] t)) : XBox w b epoch quiet v := by
  constructor <;> first | (intro i; simp [World.frozen?, h]) | simp [World.cell?, h]
theorem XBox.kept {w w' : World} {b lo hi : Nat} {epoch quiet : Int} {v : Value} (h : XBox w b epoch quiet v) (o : Only lo hi w w') (hb : b < w.heap.size) (hs : b < lo ∨ hi ≤ b) : XBox w' b epoch quiet v :=
  ⟨by rw [o.cell (by exact hb) (by exact hs)]; exact h.c0, by rw [o.cell (by exact hb) (by exact hs)]; exact h.c1, by rw [o.cell (by exact hb) (by exact hs)]; exact h.c2, fun i => by rw [o.frozen (by exact hb) (by exact hs)]; exact h.fr i⟩
theorem XBox.list {w : World} {b : Nat} {epoch quiet : Int} {v : Value} (h : XBox w b epoch quiet v) (u : Value) : XBox (w.setCell ⟨b, 2, none⟩ u) b epoch quiet u := by
  have far : ∀ (j : Nat), 2 ≠ j → (w.setCell ⟨b, 2, none⟩ u).cell? ⟨b, j, none⟩ = w.cell? ⟨b, j, none⟩ := fun j hij => World.cell?_setCell_other _ _ _ _ (fun e => hij (congrArg Addr.off e))
  exact ⟨by rw [far 0 (by decide)]; exact h.c0, by rw [far 1 (by decide)]; exact h.c1, World.cell?_setCell_same _ _ _ h.c2, fun i => by rw [World.frozen?_setCell]; exact h.fr i⟩

/-- keys rise -/
def Rising {α : Type} (es : List (Int × α)) : Prop := es.Pairwise fun p q => p.1 < q.1
theorem mdel_rising {α : Type} {es : List (Int × α)} (h : Rising es) (k : Int) : Rising (mdel es k) := List.Pairwise.filter _ h
theorem mins_rising {α : Type} (x : Int × α) : ∀ {es : List (Int × α)}, Rising es → (∀ y ∈ es, y.1 ≠ x.1) → Rising (mins x es)
  | [], _, _ => List.pairwise_singleton _ _
  | y :: r, h, hx => by
    have hr := List.pairwise_cons.1 h
    show Rising (if x.1 < y.1 then x :: y :: r else y :: mins x r)
    by_cases hlt : x.1 < y.1
    · rw [if_pos hlt]
      refine List.pairwise_cons.2 ⟨fun z hz => ?_, h⟩
      rcases List.mem_cons.1 hz with rfl | hz
      · exact hlt
      · have := hr.1 z hz; omega
    · rw [if_neg hlt]
      have hne := hx y (List.mem_cons_self ..)
      refine List.pairwise_cons.2 ⟨fun z hz => ?_, mins_rising x hr.2 (fun z hz => hx z (List.mem_cons_of_mem _ hz))⟩
      have hmem : ∀ (l : List (Int × α)), z ∈ mins x l → z = x ∨ z ∈ l := by
        intro l
        induction l with
        | nil => intro h; simp [mins] at h; exact .inl h
        | cons u l ih =>
          intro h
          simp only [mins] at h
          split at h
          · rcases List.mem_cons.1 h with h | h
            · exact .inl h
            · exact .inr h
          · rcases List.mem_cons.1 h with h | h
            · exact .inr (h ▸ List.mem_cons_self ..)
            · rcases ih h with h | h
              · exact .inl h
              · exact .inr (List.mem_cons_of_mem _ h)
      rcases hmem r hz with h | h
      · rw [h]; omega
      · exact hr.1 z h
theorem mem_mins {α : Type} (x : Int × α) (z : Int × α) : ∀ (l : List (Int × α)), z ∈ mins x l → z = x ∨ z ∈ l
  | [], h => by simp [mins] at h; exact .inl h
  | u :: l, h => by
    simp only [mins] at h
    split at h
    · rcases List.mem_cons.1 h with h | h
      · exact .inl h
      · exact .inr h
    · rcases List.mem_cons.1 h with h | h
      · exact .inr (h ▸ List.mem_cons_self ..)
      · rcases mem_mins x z l h with h | h
        · exact .inl h
        · exact .inr (List.mem_cons_of_mem _ h)
theorem mem_mdel {α : Type} {l : List (Int × α)} {k : Int} {z : Int × α} (h : z ∈ mdel l k) : z ∈ l ∧ z.1 ≠ k := by
  unfold mdel at h
  rw [List.mem_filter] at h
  exact ⟨h.1, by simpa using h.2⟩
theorem mem_mput {α : Type} {l : List (Int × α)} {k : Int} {x : α} {z : Int × α} (h : z ∈ mput l k x) : z = (k, x) ∨ z ∈ l := by
  rcases mem_mins _ _ _ h with h | h
  · exact .inl h
  · exact .inr (mem_mdel h).1
theorem mput_rising {α : Type} {es : List (Int × α)} (h : Rising es) (k : Int) (x : α) : Rising (mput es k x) :=
  mins_rising _ (mdel_rising h k) (fun _ hy => (mem_mdel hy).2)
end Go.Proofs.Ytefllgpehhlkoaa
