/-
  Maps keyed by int whose elements are small structs of ints, in words of sorted lists: what a look-up, a store, a delete, len come to.
-/
import Derived.Test.YtefllgpehhlkoaaOnly
import Derived.Maps.OwnSet
import Derived.Lib.SlMapFilter
namespace Go.Proofs.Ytefllgpehhlkoaa
open Go.RowKit Go.Maps Go.WideShapes

/-! ### sorted lists of keys and elements -/
def mget {α : Type} (es : List (Int × α)) (k : Int) : Option α := (es.find? (fun p => p.1 == k)).map (·.2)
def mdel {α : Type} (es : List (Int × α)) (k : Int) : List (Int × α) := es.filter fun p => !(p.1 == k)
def mins {α : Type} (x : Int × α) : List (Int × α) → List (Int × α)
  | [] => [x]
  | y :: r => if x.1 < y.1 then x :: y :: r else y :: mins x r
def mput {α : Type} (es : List (Int × α)) (k : Int) (x : α) : List (Int × α) := mins (k, x) (mdel es k)

/-- how an element lies in memory, and how it reads -/
structure Elem (α : Type) where
  val : α → Value
  enc : α → DataW Unit
  R : Value → Option (DataW Unit × List MemPlace)
  zero : α
  hR : ∀ x, R (val x) = some (enc x, [])
  inv : ∀ v z, R v = some z → ∃ x, v = val x ∧ z = (enc x, [])
  inj : ∀ x y, enc x = enc y → x = y

variable {α : Type} (E : Elem α)

def ent (p : Int × α) : Lit × DataW Unit := (.int .i64 p.1, E.enc p.2)
def dat (es : List (Int × α)) : DataW Unit := .map (es.map (ent E))

theorem same_int (a b : Int) : (Lit.int .i64 a).sameKey (.int .i64 b) = (a == b) := by
  simp only [Lit.sameKey, true_and]
  by_cases h : a = b <;> simp [h]

theorem dat_atKey (es : List (Int × α)) (k : Int) (z : DataW Unit) : (dat E es).atKey (.int .i64 k) z = match mget es k with | some x => E.enc x | none => z := by
  unfold dat DataW.atKey mget
  dsimp only
  rw [List.find?_map]
  have e : ((fun p : Lit × DataW Unit => p.1.sameKey (.int .i64 k)) ∘ ent E) = fun p : Int × α => p.1 == k := by
    funext p; simp [ent, same_int]
  rw [e]
  cases es.find? (fun p => p.1 == k) <;> rfl
theorem dat_has (es : List (Int × α)) (k : Int) : Maps.has (dat E es) (.int .i64 k) = (mget es k).isSome := by
  show (es.map (ent E)).any (fun p => p.1.sameKey (.int .i64 k)) = _
  unfold mget
  rw [List.any_map, Option.isSome_map]
  have e : ((fun p : Lit × DataW Unit => p.1.sameKey (.int .i64 k)) ∘ ent E) = fun p : Int × α => p.1 == k := by
    funext p; simp [ent, same_int]
  rw [e]
  induction es with
  | nil => rfl
  | cons y r ih => simp only [List.any_cons, List.find?_cons]; cases y.1 == k <;> simp [ih]
theorem dat_del (es : List (Int × α)) (k : Int) : (dat E es).del (.int .i64 k) = dat E (mdel es k) := by
  show DataW.map ((es.map (ent E)).filter fun p => !p.1.sameKey (.int .i64 k)) = DataW.map ((mdel es k).map (ent E))
  unfold mdel
  rw [List.filter_map]
  congr 3
  funext p; simp [ent, same_int]
theorem ent_ins (x : Int × α) : ∀ es : List (Int × α), DataW.insert (ent E x) (es.map (ent E)) = (mins x es).map (ent E)
  | [] => rfl
  | y :: r => by
    simp only [List.map_cons, DataW.insert, mins]
    have e : (ent E x).1.before (ent E y).1 = decide (x.1 < y.1) := rfl
    rw [e]
    by_cases h : x.1 < y.1
    · simp [h]
    · simp [h, ent_ins x r]
theorem dat_put (es : List (Int × α)) (k : Int) (x : α) : (dat E es).put (.int .i64 k) (E.enc x) = dat E (mput es k x) := by
  show DataW.map (DataW.insert (.int .i64 k, E.enc x) ((es.map (ent E)).filter fun p => !p.1.sameKey (.int .i64 k))) = DataW.map ((mput es k x).map (ent E))
  have h := dat_del E es k
  have h2 : (es.map (ent E)).filter (fun p => !p.1.sameKey (.int .i64 k)) = (mdel es k).map (ent E) := by
    have : DataW.map ((es.map (ent E)).filter fun p => !p.1.sameKey (.int .i64 k)) = DataW.map ((mdel es k).map (ent E)) := h
    injection this
  rw [h2]
  exact congrArg DataW.map (ent_ins E (k, x) (mdel es k))
theorem dat_size (es : List (Int × α)) : Maps.size (dat E es) = es.length := by simp [Maps.size, dat]

/-! ### in memory -/
variable {E}
/-- Block b of w is a map that reads as es. -/
def MapAt (E : Elem α) (w : World) (b : Nat) (es : List (Int × α)) : Prop := w.ownsMap Try.prog 3 E.R b es.length (dat E es)

theorem MapAt.of (w : World) (b n : Nat) (es : List (Int × α)) (h : w.ownsMap Try.prog 3 E.R b n (dat E es)) : MapAt E w b es := by
  obtain ⟨xs, clock, hb, F, hs, hD⟩ := h
  refine ⟨xs, clock, hb, F, ?_, hD⟩
  have h1 : dat E es = .map (es.map (ent E)) := rfl
  rw [h1] at hD
  injection hD with hD
  have := congrArg List.length hD
  rw [length_sorted] at this
  simp at this
  omega
theorem MapAt.lt {w : World} {b : Nat} {es : List (Int × α)} (h : MapAt E w b es) : b < w.heap.size := World.ownsMap.lt h
theorem MapAt.kept {w w' : World} {b lo hi : Nat} {es : List (Int × α)} (h : MapAt E w b es) (o : Only lo hi w w') (hb : b < lo ∨ hi ≤ b) : MapAt E w' b es := by
  have hlt := h.lt
  obtain ⟨xs, clock, hx, r⟩ := h
  exact ⟨xs, clock, by rw [o.block b hlt hb]; exact hx, r⟩
theorem MapAt.made (w : World) : MapAt E (w.alloc (.map #[] 0)) w.heap.size [] := World.ownsMap_made w Try.prog 3 E.R

theorem law3 : Keyed Try.prog 3 := int_keyed Try.underlying3

/-- A map value: nil, or a block; what it reads as. -/
def MapIs (E : Elem α) (w : World) (m : Option Nat) (es : List (Int × α)) : Prop :=
  match m with
  | none => es = []
  | some b => MapAt E w b es

/-- 'v, ok := m[k]': the value that comes back. -/
def got (E : Elem α) (o : Option α) : Value := .tuple #[E.val (o.getD E.zero), .bool o.isSome]

theorem MapIs.look {w : World} {m : Option Nat} {es : List (Int × α)} (h : MapIs E w m es) {t e : TypeId} (ht : Try.prog.underlying t = some (.map 3 e)) (hz : (zeroValue e).run Try.prog w = .ok (E.val E.zero) w) (k : Int) (hk : (Lit.int .i64 k).wf = true) :
    (Instr.lookup t (.map m) (.int .i64 k) true).run Try.prog w = .ok (got E (mget es k)) w := by
  have hkey := keyOf_int_mk (P := Try.prog) Try.underlying3 hk
  cases m with
  | none =>
    obtain rfl : es = [] := h
    rw [Maps.look_nil true law3 ht hz hkey]
    simp [got, mget]
  | some b =>
    obtain ⟨v, ps, hrun, hv⟩ := World.ownsMap.look_ok h law3 ht hz (E.hR E.zero) hkey
    rw [hrun]
    obtain ⟨x, rfl, hx⟩ := E.inv _ _ hv
    rw [dat_atKey] at hx
    rw [dat_has]
    unfold got
    cases hm : mget es k with
    | none => rw [hm] at hx; simp only [Prod.mk.injEq] at hx; rw [E.inj _ _ hx.1]; simp
    | some y => rw [hm] at hx; simp only [Prod.mk.injEq] at hx; rw [E.inj _ _ hx.1]; simp
/-- 'm[k]' -/
theorem MapIs.look1 {w : World} {m : Option Nat} {es : List (Int × α)} (h : MapIs E w m es) {t e : TypeId} (ht : Try.prog.underlying t = some (.map 3 e)) (hz : (zeroValue e).run Try.prog w = .ok (E.val E.zero) w) (k : Int) (hk : (Lit.int .i64 k).wf = true) :
    (Instr.lookup t (.map m) (.int .i64 k) false).run Try.prog w = .ok (E.val ((mget es k).getD E.zero)) w := by
  have hkey := keyOf_int_mk (P := Try.prog) Try.underlying3 hk
  cases m with
  | none =>
    obtain rfl : es = [] := h
    rw [Maps.look_nil false law3 ht hz hkey]
    simp [mget]
  | some b =>
    obtain ⟨v, ps, hrun, hv⟩ := World.ownsMap.lookup h law3 ht hz (E.hR E.zero) hkey
    rw [hrun]
    obtain ⟨x, rfl, hx⟩ := E.inv _ _ hv
    rw [dat_atKey] at hx
    cases hm : mget es k with
    | none => rw [hm] at hx; simp only [Prod.mk.injEq] at hx; rw [E.inj _ _ hx.1]; simp
    | some y => rw [hm] at hx; simp only [Prod.mk.injEq] at hx; rw [E.inj _ _ hx.1]; simp
/-- 'len(m)' -/
theorem MapIs.len {w : World} {m : Option Nat} {es : List (Int × α)} (h : MapIs E w m es) {t e : TypeId} (ht : Try.prog.underlying t = some (.map 3 e)) (ty : TypeId) : (Builtin.len_ #[t] ty #[.map m]).run Try.prog w = .ok (.int .i64 es.length) w := by
  cases m with
  | none => obtain rfl : es = [] := h; rw [Maps.len_nil ht ty]; rfl
  | some b => rw [World.ownsMap.len h ht ty, dat_size]
theorem MapIs.kept {w w' : World} {m : Option Nat} {lo hi : Nat} {es : List (Int × α)} (h : MapIs E w m es) (o : Only lo hi w w') (hb : ∀ b, m = some b → b < lo ∨ hi ≤ b) : MapIs E w' m es := by
  cases m with
  | none => exact h
  | some b => exact MapAt.kept h o (hb b rfl)

section
variable (w : World) {ops : Array Oper} {rest : List Oper} {o : Oper} {a : Act} {Q : Exit → Act → World → Prop}
/-- 'm[k] = v' at the operation. -/
theorem wpList_put (hg : o.guard = none) (m x v : Operand) (t : TypeId) (hop : o.op = Op.mapUpdate t m x v) (e : TypeId) (ht : Try.prog.underlying t = some (.map 3 e)) (b : Nat) (es : List (Int × α))
    (hm : a.eval m = .map (some b)) (hown : MapAt E w b es) (hn : es.length < 1000000) (k : Int) (hk : (Lit.int .i64 k).wf = true) (hx : a.eval x = .int .i64 k) (y : α) (hv : a.eval v = E.val y)
    (hK : ∀ w', MapAt E w' b (mput es k y) → Only b (b + 1) w w' → wpList Try.prog ops Q rest (a.put o.dst undef) w') :
    wpList Try.prog ops Q (o :: rest) a w :=
  wpList_mapUpdate_own w hg m x v t hop 3 e law3 ht E.R b es.length (dat E es) hm hown (by unfold maxLen; omega) _ _ (.int .i64 k) hx hv (keyOf_int_mk Try.underlying3 hk) (E.enc y) [] (E.hR y)
    (fun w' h1 h2 => hK w' (MapAt.of _ _ _ _ (by rw [dat_put] at h1; exact h1)) (Only.of_grown h2))
/-- 'delete(m, k)' at the operation. -/
theorem wpList_del (hg : o.guard = none) (m x : Operand) (t : TypeId) (hop : o.op = Op.call { callee := Callee.builtin Builtin.delete, args := #[m, x], argTypes := #[t, 3] }) (e : TypeId) (ht : Try.prog.underlying t = some (.map 3 e)) (b : Nat) (es : List (Int × α))
    (hm : a.eval m = .map (some b)) (hown : MapAt E w b es) (k : Int) (hk : (Lit.int .i64 k).wf = true) (hx : a.eval x = .int .i64 k)
    (hK : ∀ w', MapAt E w' b (mdel es k) → Only b (b + 1) w w' → wpList Try.prog ops Q rest (a.put o.dst (.tuple #[])) w') :
    wpList Try.prog ops Q (o :: rest) a w :=
  wpList_delete_own w hg m x t 3 hop e law3 ht E.R b es.length (dat E es) hm hown _ (.int .i64 k) hx (keyOf_int_mk Try.underlying3 hk)
    (fun w' h1 h2 => hK w' (MapAt.of _ _ _ _ (by rw [dat_del] at h1; exact h1)) (Only.of_grown h2.grown))
end

/-! ### two ints, three ints -/
def pairR : Value → Option (DataW Unit × List MemPlace)
  | .agg cs => match cs.toList with
    | [.int .i64 a, .int .i64 b] => some (.agg [.lit (.int .i64 a), .lit (.int .i64 b)], [])
    | _ => none
  | _ => none
def tripR : Value → Option (DataW Unit × List MemPlace)
  | .agg cs => match cs.toList with
    | [.int .i64 a, .int .i64 b, .int .i64 c] => some (.agg [.lit (.int .i64 a), .lit (.int .i64 b), .lit (.int .i64 c)], [])
    | _ => none
  | _ => none
def pairE : Elem (Int × Int) where
  val x := .agg #[.int .i64 x.1, .int .i64 x.2]
  enc x := .agg [.lit (.int .i64 x.1), .lit (.int .i64 x.2)]
  R := pairR
  zero := (0, 0)
  hR x := rfl
  inv v z h := by
    unfold pairR at h
    split at h
    · rename_i cs
      split at h
      · rename_i a b hc
        cases h
        refine ⟨(a, b), ?_, rfl⟩
        show Value.agg cs = _
        rw [← Array.toArray_toList (xs := cs), hc]
      · cases h
    · cases h
  inj x y h := by
    obtain ⟨x1, x2⟩ := x
    obtain ⟨y1, y2⟩ := y
    simp at h
    simp [h]
def tripE : Elem (Int × Int × Int) where
  val x := .agg #[.int .i64 x.1, .int .i64 x.2.1, .int .i64 x.2.2]
  enc x := .agg [.lit (.int .i64 x.1), .lit (.int .i64 x.2.1), .lit (.int .i64 x.2.2)]
  R := tripR
  zero := (0, 0, 0)
  hR x := rfl
  inv v z h := by
    unfold tripR at h
    split at h
    · rename_i cs
      split at h
      · rename_i a b c hc
        cases h
        refine ⟨(a, b, c), ?_, rfl⟩
        show Value.agg cs = _
        rw [← Array.toArray_toList (xs := cs), hc]
      · cases h
    · cases h
  inj x y h := by
    obtain ⟨x1, x2, x3⟩ := x
    obtain ⟨y1, y2, y3⟩ := y
    simp at h
    simp [h]
end Go.Proofs.Ytefllgpehhlkoaa
