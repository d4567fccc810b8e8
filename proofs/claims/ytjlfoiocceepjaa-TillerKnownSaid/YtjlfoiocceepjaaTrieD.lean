/-
  How a trie's state changes: a map made, a node hung in, a node's cells stored.
-/
import Derived.Test.YtjlfoiocceepjaaTrieE
namespace Go.Proofs.Ytjlfoiocceepjaa.Trie
open Go.RowKit Go.Proofs.YtjlfoiocceepjaaW.PrintWords Go.Proofs.YtjlfoiocceepjaaW.PrintLast Go.Proofs.YtjlfoiocceepjaaW.PrintMore
set_option linter.unusedVariables false
set_option linter.unusedSimpArgs false

section
variable {α : Type}
theorem mget_nil (k : Int) : mget ([] : List (Int × α)) k = none := rfl
theorem mget_cons (p : Int × α) (r : List (Int × α)) (k : Int) : mget (p :: r) k = if p.1 = k then some p.2 else mget r k := by
  unfold mget
  rw [List.find?_cons]
  by_cases h : p.1 = k
  · simp [h]
  · rw [beq_eq_false_iff_ne.2 h, if_neg h]
theorem mget_del (es : List (Int × α)) (k j : Int) : mget (mdel es k) j = if k = j then none else mget es j := by
  induction es with
  | nil => simp [mdel, mget]
  | cons p r ih =>
    have hd : mdel (p :: r) k = if p.1 = k then mdel r k else p :: mdel r k := by
      unfold mdel
      rw [List.filter_cons]
      by_cases h : p.1 = k
      · simp [h]
      · rw [beq_eq_false_iff_ne.2 h, if_neg h]; rfl
    rw [hd]
    by_cases h : p.1 = k
    · rw [if_pos h, ih, mget_cons]
      by_cases hkj : k = j
      · rw [if_pos hkj, if_pos hkj]
      · rw [if_neg hkj, if_neg hkj, if_neg (by omega)]
    · rw [if_neg h, mget_cons, mget_cons, ih]
      by_cases hkj : k = j
      · rw [if_pos hkj, if_pos hkj, if_neg (by omega)]
      · rw [if_neg hkj, if_neg hkj]
theorem mget_ins (x : Int × α) (es : List (Int × α)) (hx : mget es x.1 = none) (j : Int) : mget (mins x es) j = if x.1 = j then some x.2 else mget es j := by
  induction es with
  | nil => simp only [mins, mget_cons]
  | cons p r ih =>
    have hp : p.1 ≠ x.1 := by
      intro e
      rw [mget_cons, if_pos e] at hx
      cases hx
    rw [mget_cons, if_neg hp] at hx
    simp only [mins]
    by_cases h : x.1 < p.1
    · rw [if_pos h, mget_cons]
    · rw [if_neg h, mget_cons, ih hx, mget_cons]
      by_cases h1 : p.1 = j
      · rw [if_pos h1, if_pos h1, if_neg (by omega)]
      · rw [if_neg h1, if_neg h1]
theorem mget_put (es : List (Int × α)) (k : Int) (x : α) (j : Int) : mget (mput es k x) j = if k = j then some x else mget es j := by
  unfold mput
  rw [mget_ins (k, x) (mdel es k) (by rw [mget_del, if_pos rfl]), mget_del]
  by_cases h : k = j
  · rw [if_pos h, if_pos h]
  · rw [if_neg h, if_neg h, if_neg h]
theorem mdel_len (es : List (Int × α)) (k : Int) : (mdel es k).length ≤ es.length := List.length_filter_le _ _
theorem mins_len (x : Int × α) (es : List (Int × α)) : (mins x es).length = es.length + 1 := by
  induction es with
  | nil => rfl
  | cons p r ih =>
    simp only [mins]
    by_cases h : x.1 < p.1
    · rw [if_pos h]; rfl
    · rw [if_neg h, List.length_cons, ih, List.length_cons]
theorem mput_len (es : List (Int × α)) (k : Int) (x : α) : (mput es k x).length ≤ es.length + 1 := by
  unfold mput
  rw [mins_len]
  have := mdel_len es k
  omega
end

def upd {α : Type} (f : List Int → α) (p : List Int) (v : α) : List Int → α := fun q => if q = p then v else f q
theorem upd_same {α : Type} (f : List Int → α) (p : List Int) (v : α) : upd f p v p = v := if_pos rfl
theorem upd_ne {α : Type} (f : List Int → α) {p q : List Int} (v : α) (h : q ≠ p) : upd f p v q = f q := if_neg h
variable {B : Nat} {W W' : World} {t : Nat} {D : List (List Int)} {L : Lay} {cnt : Int} {K : Nat}
theorem MapAt.map {b : Nat} {es : List (Int × Option Nat)} (h : MapAt Ptr W b es) : ∃ xs clock, W.heap[b]? = some (.map xs clock) := by
  obtain ⟨xs, clock, hb, _⟩ := h
  exact ⟨xs, clock, hb⟩
theorem MapAt.notBlk {b g : Nat} {ty : TypeId} {cs : Array Value} {es : List (Int × Option Nat)} (h : MapAt Ptr W b es) (k : Blk W g ty cs) : b ≠ g := by
  obtain ⟨xs, clock, hb⟩ := h.map
  intro e
  subst e
  unfold Blk at k
  rw [hb] at k
  cases k
/-- a node's block, of whichever type -/
theorem TI.blk (h : TI B W t D L cnt K) {p : List Int} (hp : p ∈ D) : ∃ ty cs, Blk W (L.ad p) ty cs ∧ (ty = 31 ∨ ty = 29) := by
  by_cases hn : p = []
  · subst hn
    rw [h.rt]
    exact ⟨_, _, h.root, .inl rfl⟩
  · exact ⟨_, _, h.node p hp hn, .inr rfl⟩
theorem TI.mapne (h : TI B W t D L cnt K) {p q : List Int} (hp : p ∈ D) (hq : q ∈ D) {b : Nat} (hb : L.mp q = some b) : b ≠ L.ad p := by
  obtain ⟨ty, cs, hk, _⟩ := h.blk hp
  have := h.map q hq
  rw [hb] at this
  exact MapAt.notBlk this hk
/-- a node's cells are other ones -/
theorem TI.set (h : TI B W t D L cnt K) {p : List Int} (hp : p ∈ D) (f : Far (L.ad p) W W') (m' : Option Nat) (th' : Bool) (va' cnt' : Int)
    (hr : p = [] → Blk W' t 31 #[.map m', .bool th', .int .i64 va', .int .i64 cnt'])
    (hn : p ≠ [] → Blk W' (L.ad p) 29 #[.map m', .bool th', .int .i64 va'] ∧ cnt' = cnt)
    (hm : MapIs Ptr W' m' (L.ki p)) (hmi : ∀ q b, q ∈ D → q ≠ p → m' = some b → L.mp q ≠ some b) (hlo : ∀ b, m' = some b → B ≤ b) :
    TI B W' t D { L with mp := upd L.mp p m', th := upd L.th p th', va := upd L.va p va' } cnt' K where
  nil := h.nil
  closed := h.closed
  rt := h.rt
  root := by
    show Blk W' t 31 #[.map (upd L.mp p m' []), .bool (upd L.th p th' []), .int .i64 (upd L.va p va' []), .int .i64 cnt']
    by_cases e : p = []
    · have h1 := hr e
      subst e
      rw [upd_same, upd_same, upd_same]
      exact h1
    · have h1 := (hn e).2
      rw [upd_ne _ _ (Ne.symm e), upd_ne _ _ (Ne.symm e), upd_ne _ _ (Ne.symm e), h1]
      exact h.root.away f (fun e2 => e (h.adinj p [] hp h.nil (by rw [h.rt]; exact e2.symm)))
  node := fun q hq hqn => by
    show Blk W' (L.ad q) 29 #[.map (upd L.mp p m' q), .bool (upd L.th p th' q), .int .i64 (upd L.va p va' q)]
    by_cases e : q = p
    · subst e
      rw [upd_same, upd_same, upd_same]
      exact (hn hqn).1
    · rw [upd_ne _ _ e, upd_ne _ _ e, upd_ne _ _ e]
      exact (h.node q hq hqn).away f (fun e2 => e (h.adinj q p hq hp e2))
  map := fun q hq => by
    show MapIs Ptr W' (upd L.mp p m' q) (L.ki q)
    by_cases e : q = p
    · subst e
      rw [upd_same]
      exact hm
    · rw [upd_ne _ _ e]
      exact (h.map q hq).eq fun b hb => f.block b (h.mapne hp hq hb)
  kids := h.kids
  adinj := h.adinj
  mpinj := fun q r b hq hr' h1 h2 => by
    have h1' : upd L.mp p m' q = some b := h1
    have h2' : upd L.mp p m' r = some b := h2
    by_cases e : q = p
    · subst e
      rw [upd_same] at h1'
      by_cases e2 : r = q
      · exact e2.symm
      · rw [upd_ne _ _ e2] at h2'
        exact absurd h2' (hmi r b hr' e2 h1')
    · rw [upd_ne _ _ e] at h1'
      by_cases e2 : r = p
      · subst e2
        rw [upd_same] at h2'
        exact absurd h1' (hmi q b hq e h2')
      · rw [upd_ne _ _ e2] at h2'
        exact h.mpinj q r b hq hr' h1' h2'
  few := h.few
  lo := fun q hq => ⟨(h.lo q hq).1, fun b hb => by
    have hb' : upd L.mp p m' q = some b := hb
    by_cases e : q = p
    · subst e
      rw [upd_same] at hb'
      exact hlo b hb'
    · rw [upd_ne _ _ e] at hb'
      exact (h.lo q hq).2 b hb'⟩
theorem TI.lt (h : TI B W t D L cnt K) {p : List Int} (hp : p ∈ D) : L.ad p < W.heap.size := by
  obtain ⟨ty, cs, hk, _⟩ := h.blk hp
  exact hk.lt
theorem TI.efar (h : TI B W t D L cnt K) {p : List Int} (hp : p ∈ D) (f : Far (L.ad p) W W') : Ef B [29, 31] W W' := by
  obtain ⟨ty, cs, hk, ht⟩ := h.blk hp
  exact Ef.far hk (by rcases ht with rfl | rfl <;> simp) (h.lo p hp).1 f
/-- a map where there was none -/
theorem TI.made (h : TI B W t D L cnt K) {p : List Int} (hp : p ∈ D) (hm : L.mp p = none) (hB : B ≤ W.heap.size) :
    TI B ((W.alloc (.map #[] 0)).setCell ⟨L.ad p, 0, none⟩ (.map (some W.heap.size))) t D { L with mp := upd L.mp p (some W.heap.size) } cnt K ∧ Ef B [29, 31] W ((W.alloc (.map #[] 0)).setCell ⟨L.ad p, 0, none⟩ (.map (some W.heap.size))) := by
  have hb := (Below.refl _ W).alloc (Nat.le_refl _) (.map #[] 0)
  have h1 := h.out hb
  have f := Far.setCell (W.alloc (.map #[] 0)) ⟨L.ad p, 0, none⟩ (.map (some W.heap.size))
  have hki : L.ki p = [] := by
    have := h.map p hp
    rw [hm] at this
    exact this
  have hs := h1.set hp f (some W.heap.size) (L.th p) (L.va p) cnt
    (fun e => by subst e; have := h1.root.set 0 (.map (some W.heap.size)); rw [h.rt]; exact this)
    (fun e => ⟨(h1.node p hp e).set 0 (.map (some W.heap.size)), rfl⟩)
    (by rw [hki]; exact MapAt.eq (E := Ptr) (MapAt.made W) (f.block _ (Nat.ne_of_gt (h.lt hp))))
    (fun q b hq _ e e2 => by have := h.mlt hq e2; injection e with e; omega)
    (fun b e => by injection e with e; omega)
  refine ⟨?_, (Ef.of_below hb).trans (h1.efar hp f)⟩
  have e1 : upd L.th p (L.th p) = L.th := by funext q; unfold upd; split <;> simp_all
  have e2 : upd L.va p (L.va p) = L.va := by funext q; unfold upd; split <;> simp_all
  rw [e1, e2] at hs
  exact hs
/-- a node hung in -/
def Lay.hung (L : Lay) (p : List Int) (x : Int) (g : Nat) : Lay where
  ad := upd L.ad (p ++ [x]) g
  mp := upd L.mp (p ++ [x]) none
  ki := upd (upd L.ki p (mput (L.ki p) x (some g))) (p ++ [x]) []
  th := upd L.th (p ++ [x]) false
  va := upd L.va (p ++ [x]) 0
theorem ne_snoc (p : List Int) (x : Int) : p ≠ p ++ [x] := fun e => by
  have := congrArg List.length e
  rw [List.length_append] at this
  simp at this
theorem TI.hung (h : TI B W t D L cnt K) {p : List Int} (hp : p ∈ D) (x : Int) (hx : p ++ [x] ∉ D) {b : Nat} (hm : L.mp p = some b) (hB : B ≤ W.heap.size) {g : Nat} (hg : g = W.heap.size) {W1 W2 : World} (hb : Below W.heap.size W W1)
    (hn : Blk W1 g 29 #[.map none, .bool false, .int .i64 0]) (hma : MapAt Ptr W2 b (mput (L.ki p) x (some g))) (hgr : W1.grownBy W2 (some b)) :
    TI B W2 t ((p ++ [x]) :: D) (L.hung p x g) cnt (K + 1) ∧ Ef B [29, 31] W W2 := by
  have h1 := h.out hb
  have hmb : MapAt Ptr W1 b (L.ki p) := by
    have := h1.map p hp
    rw [hm] at this
    exact this
  have hmw : MapAt Ptr W b (L.ki p) := by
    have := h.map p hp
    rw [hm] at this
    exact this
  have hk : ∀ {q : Nat} {ty : TypeId} {cs : Array Value}, Blk W1 q ty cs → Blk W2 q ty cs := fun k => k.grown hgr (fun e => by injection e with e; exact MapAt.notBlk hmb k e.symm)
  have hnD : ∀ q, q ∈ D → q ≠ p ++ [x] := fun q hq e => hx (e ▸ hq)
  have hgn : ∀ q, q ∈ D → L.ad q ≠ g := fun q hq e => by have := h.lt hq; omega
  refine ⟨?_, ?_⟩
  · constructor
    · exact List.mem_cons_of_mem _ h.nil
    · intro q y hq
      rcases List.mem_cons.1 hq with e | hq
      · have := (List.append_inj' e rfl).1
        rw [this]
        exact List.mem_cons_of_mem _ hp
      · exact List.mem_cons_of_mem _ (h.closed q y hq)
    · show upd L.ad (p ++ [x]) g [] = t
      rw [upd_ne _ _ (hnD _ h.nil)]
      exact h.rt
    · show Blk W2 t 31 #[.map (upd L.mp (p ++ [x]) none []), .bool (upd L.th (p ++ [x]) false []), .int .i64 (upd L.va (p ++ [x]) 0 []), .int .i64 cnt]
      rw [upd_ne _ _ (hnD _ h.nil), upd_ne _ _ (hnD _ h.nil), upd_ne _ _ (hnD _ h.nil)]
      exact hk h1.root
    · intro q hq hqn
      show Blk W2 (upd L.ad (p ++ [x]) g q) 29 #[.map (upd L.mp (p ++ [x]) none q), .bool (upd L.th (p ++ [x]) false q), .int .i64 (upd L.va (p ++ [x]) 0 q)]
      rcases List.mem_cons.1 hq with rfl | hq
      · rw [upd_same, upd_same, upd_same, upd_same]
        exact hk hn
      · rw [upd_ne _ _ (hnD _ hq), upd_ne _ _ (hnD _ hq), upd_ne _ _ (hnD _ hq), upd_ne _ _ (hnD _ hq)]
        exact hk (h1.node q hq hqn)
    · intro q hq
      show MapIs Ptr W2 (upd L.mp (p ++ [x]) none q) (upd (upd L.ki p (mput (L.ki p) x (some g))) (p ++ [x]) [] q)
      rcases List.mem_cons.1 hq with rfl | hq
      · rw [upd_same, upd_same]
        rfl
      · rw [upd_ne _ _ (hnD _ hq), upd_ne _ _ (hnD _ hq)]
        by_cases e : q = p
        · subst e
          rw [upd_same, hm]
          exact hma
        · rw [upd_ne _ _ e]
          exact (h1.map q hq).eq fun c hc => hgr.block c (h1.mlt hq hc) (fun e2 => by
            injection e2 with e2
            subst e2
            exact e (h.mpinj q p c hq hp hc hm))
    · intro q hq y
      show (q ++ [y] ∈ (p ++ [x]) :: D → mget (upd (upd L.ki p (mput (L.ki p) x (some g))) (p ++ [x]) [] q) y = some (some (upd L.ad (p ++ [x]) g (q ++ [y])))) ∧ (q ++ [y] ∉ (p ++ [x]) :: D → mget (upd (upd L.ki p (mput (L.ki p) x (some g))) (p ++ [x]) [] q) y = none)
      rcases List.mem_cons.1 hq with rfl | hq
      · rw [upd_same]
        refine ⟨fun hy => ?_, fun _ => rfl⟩
        rcases List.mem_cons.1 hy with e | hy
        · exact absurd e.symm (ne_snoc _ _)
        · exact absurd (h.closed _ _ hy) hx
      · rw [upd_ne _ _ (hnD _ hq)]
        have hk := h.kids q hq y
        by_cases e : q = p
        · subst e
          rw [upd_same, mget_put]
          by_cases exy : x = y
          · subst exy
            rw [if_pos rfl, upd_same]
            exact ⟨fun _ => rfl, fun hn => absurd (List.mem_cons_self ..) hn⟩
          · have hne : q ++ [y] ≠ q ++ [x] := fun e => exy (by have := List.append_cancel_left e; simpa using this.symm)
            rw [if_neg exy, upd_ne _ _ hne]
            exact ⟨fun hy => hk.1 ((List.mem_cons.1 hy).resolve_left hne), fun hy => hk.2 (fun h => hy (List.mem_cons_of_mem _ h))⟩
        · have hne : q ++ [y] ≠ p ++ [x] := fun e2 => e (List.append_inj' e2 rfl).1
          rw [upd_ne _ _ e, upd_ne _ _ hne]
          exact ⟨fun hy => hk.1 ((List.mem_cons.1 hy).resolve_left hne), fun hy => hk.2 (fun h => hy (List.mem_cons_of_mem _ h))⟩
    · intro q r hq hr e
      have e' : upd L.ad (p ++ [x]) g q = upd L.ad (p ++ [x]) g r := e
      rcases List.mem_cons.1 hq with e1 | hq <;> rcases List.mem_cons.1 hr with e2 | hr
      · rw [e1, e2]
      · rw [e1, upd_same, upd_ne _ _ (hnD _ hr)] at e'
        exact absurd e'.symm (hgn _ hr)
      · rw [e2, upd_same, upd_ne _ _ (hnD _ hq)] at e'
        exact absurd e' (hgn _ hq)
      · rw [upd_ne _ _ (hnD _ hq), upd_ne _ _ (hnD _ hr)] at e'
        exact h.adinj _ _ hq hr e'
    · intro q r c hq hr e1 e2
      have e1' : upd L.mp (p ++ [x]) none q = some c := e1
      have e2' : upd L.mp (p ++ [x]) none r = some c := e2
      rcases List.mem_cons.1 hq with e3 | hq
      · rw [e3, upd_same] at e1'
        cases e1'
      · rcases List.mem_cons.1 hr with e4 | hr
        · rw [e4, upd_same] at e2'
          cases e2'
        · rw [upd_ne _ _ (hnD _ hq)] at e1'
          rw [upd_ne _ _ (hnD _ hr)] at e2'
          exact h.mpinj _ _ _ hq hr e1' e2'
    · intro q hq
      show (upd (upd L.ki p (mput (L.ki p) x (some g))) (p ++ [x]) [] q).length ≤ K + 1
      rcases List.mem_cons.1 hq with rfl | hq
      · rw [upd_same]
        exact Nat.zero_le _
      · rw [upd_ne _ _ (hnD _ hq)]
        have := h.few q hq
        by_cases e : q = p
        · subst e
          rw [upd_same]
          have := mput_len (L.ki q) x (some g)
          omega
        · rw [upd_ne _ _ e]
          omega
    · intro q hq
      show B ≤ upd L.ad (p ++ [x]) g q ∧ ∀ c, upd L.mp (p ++ [x]) none q = some c → B ≤ c
      rcases List.mem_cons.1 hq with rfl | hq
      · rw [upd_same, upd_same]
        exact ⟨by omega, fun c hc => by cases hc⟩
      · rw [upd_ne _ _ (hnD _ hq), upd_ne _ _ (hnD _ hq)]
        exact h.lo q hq
  · refine (Ef.of_below hb).trans ⟨hgr.os, hgr.tape, hgr.output, hgr.size, fun i hi hc => hgr.block i hi (fun e => ?_)⟩
    injection e with e
    subst e
    rcases hc with hc | ⟨cs, ty, mk, h2, _⟩
    · have := (h.lo p hp).2 i hm
      omega
    · obtain ⟨xs, clock, h3⟩ := hmb.map
      rw [h3] at h2
      cases h2
/-- a row's end, its value -/
theorem TI.ends (h : TI B W t D L cnt K) {p : List Int} (hp : p ∈ D) (hpn : p ≠ []) (th' : Bool) (va' : Int) (hW : Far (L.ad p) W W') (hk : Blk W' (L.ad p) 29 #[.map (L.mp p), .bool th', .int .i64 va']) :
    TI B W' t D { L with th := upd L.th p th', va := upd L.va p va' } cnt K := by
  have hs := h.set hp hW (L.mp p) th' va' cnt (fun e => absurd e hpn) (fun _ => ⟨hk, rfl⟩)
    ((h.map p hp).eq fun b hb => hW.block b (h.mapne hp hp hb)) (fun q b hq hqp e e2 => hqp (h.mpinj q p b hq hp e2 e)) (fun b e => (h.lo p hp).2 b e)
  have e1 : upd L.mp p (L.mp p) = L.mp := by funext q; unfold upd; split <;> simp_all
  rw [e1] at hs
  exact hs
theorem TI.count (h : TI B W t D L cnt K) (c' : Int) (hW : Far t W W') (hk : Blk W' t 31 #[.map (L.mp []), .bool (L.th []), .int .i64 (L.va []), .int .i64 c']) : TI B W' t D L c' K := by
  have hs := h.set h.nil (by rw [h.rt]; exact hW) (L.mp []) (L.th []) (L.va []) c' (fun _ => hk) (fun e => absurd rfl e)
    ((h.map [] h.nil).eq fun b hb => hW.block b (fun e => h.mapne h.nil h.nil hb (by rw [h.rt]; exact e))) (fun q b hq hqp e e2 => hqp (h.mpinj q [] b hq h.nil e2 e)) (fun b e => (h.lo [] h.nil).2 b e)
  have e1 : upd L.mp [] (L.mp []) = L.mp := by funext q; unfold upd; split <;> simp_all
  have e2 : upd L.th [] (L.th []) = L.th := by funext q; unfold upd; split <;> simp_all
  have e3 : upd L.va [] (L.va []) = L.va := by funext q; unfold upd; split <;> simp_all
  rw [e1, e2, e3] at hs
  exact hs
theorem TI.more (h : TI B W t D L cnt K) {K' : Nat} (hK : K ≤ K') : TI B W t D L cnt K' :=
  ⟨h.nil, h.closed, h.rt, h.root, h.node, h.map, h.kids, h.adinj, h.mpinj, fun p hp => Nat.le_trans (h.few p hp) hK, h.lo⟩
end Go.Proofs.Ytjlfoiocceepjaa.Trie
