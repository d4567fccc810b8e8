/-
  A region that draws its order, walked in one order: operations that only read may be taken first where each operation that changes the world waits for them; operations that look at no world may be taken first anyway.
-/
import Derived.StillTail
import Derived.StillTactics
import Derived.RegionTactic
namespace Go.Proofs.Ytefllgpehhlkoaa
section
variable {P : Program} {ops : Array Oper} {md : Region.Mode} {Q : Exit → Act → World → Prop}

/-- Whatever order is picked; those outside Ch leave the world as it is. -/
def wpAnyC (P : Program) (md : Region.Mode) (ops : Array Oper) (Q : Exit → Act → World → Prop) (Ch : List Nat) : Nat → Array Bool → Act → World → Prop
  | 0, listed, a, w => Region.ready md ops listed = [] ∧ Q .normal a w
  | fuel + 1, listed, a, w =>
    (Region.ready md ops listed = [] → Q .normal a w) ∧
    ∀ i ∈ Region.ready md ops listed, (i ∈ Ch → wpOp P ops Q i (wpAnyC P md ops Q Ch fuel (listed.setIfInBounds i true)) a w) ∧
      (i ∉ Ch → stOp P ops w i (fun a' => wpAnyC P md ops Q Ch fuel (listed.setIfInBounds i true) a' w) a)

theorem wpAny_of_C {Ch : List Nat} : ∀ (fuel : Nat) (listed : Array Bool) (a : Act) (w : World), wpAnyC P md ops Q Ch fuel listed a w → wpAny P md ops Q fuel listed a w
  | 0, _, _, _, h => h
  | fuel + 1, _, _, _, h => ⟨h.1, fun i hi => by
      by_cases hc : i ∈ Ch
      · exact wpOp_mono (fun a' w' h' => wpAny_of_C fuel _ a' w' h') ((h.2 i hi).1 hc)
      · exact wpOp_of_stOp (fun a' h' => wpAny_of_C fuel _ a' _ h') ((h.2 i hi).2 hc)⟩

theorem reg_begin {id : Nat} {a : Act} {w : World} (Ch : List Nat) (hm : P.follows .mixedOrders = true)
    (h : wpAnyC P .any ops Q Ch ops.size (Array.replicate ops.size false) a (World.drew w)) : (Code.region id ops true).wp P Q a w :=
  wp_region_any hm (wpAny_of_C _ _ _ _ h)

theorem getD_true_of_set {listed : Array Bool} {i t : Nat} (h : (listed.setIfInBounds i true).getD t true = false) : listed.getD t true = false := by
  by_cases hit : i = t
  · subst hit
    rcases Nat.lt_or_ge i listed.size with h' | h'
    · simp [h'] at h
    · simp at h
  · rwa [getD_set_ne true hit] at h

/-- One operation that leaves the world, commuted with one that yields v. -/
theorem stOp_swap {j : Nat} {oi oj : Oper} {v : Value} {w : World} (hj : ops[j]? = some oj) (hap : oi.apart ops oj = true)
    (hsi : ∀ cs b, oi.op ≠ .select cs b) (hsj : ∀ cs b, oj.op ≠ .select cs b) {K : Act → Prop} {a : Act} (h : stOp P ops w j K (a.put oi.dst v)) :
    stOp P ops w j (fun a' => (execOp a'.eval oi = execOp a.eval oi ∧ Region.wanted oi (yielded ops a'.tmps) = Region.wanted oi (yielded ops a.tmps)) ∧ K (a'.put oi.dst v)) a := by
  obtain ⟨h1, h2, h3⟩ := Oper.apart_spec hap
  obtain ⟨u, hy, hK⟩ := yieldsAt_of_stOp hj h
  have hy' : YieldsAt P ops w oj u a := hy.of_same (execOp_put oj hsj a oi.dst v h1).symm (wanted_put oj a oi.dst v h1).symm
  exact hy'.stOp hj ⟨⟨execOp_put oi hsi a oj.dst u h3, wanted_put oi a oj.dst u h3⟩, by rw [← Act.put_comm a v u h2]; exact hK⟩

/-- An operation that only reads: first, where all of Ch that is left waits for it. -/
theorem wpAnyC_still {i : Nat} {oi : Oper} {v : Value} {Ch : List Nat} {w : World} (hi : ops[i]? = some oi) (hsel : ∀ (j : Nat) (o : Oper) cs b, ops[j]? = some o → o.op ≠ .select cs b)
    (hic : i ∉ Ch) :
    ∀ (fuel : Nat) (listed : Array Bool) (a : Act),
      (∀ c ∈ Ch, listed.getD c true = false → Region.waitsFor md ops c i = true) →
      (∀ j oj, ops[j]? = some oj → j ≠ i → listed.getD j true = false → (∀ e ∈ oj.after, Region.binds md e = true → e.on ≠ i) → oi.apart ops oj = true) →
      i ∈ Region.ready md ops listed → YieldsAt P ops w oi v a →
      wpAnyC P md ops Q Ch fuel (listed.setIfInBounds i true) (a.put oi.dst v) w → wpAnyC P md ops Q Ch (fuel + 1) listed a w := by
  intro fuel
  induction fuel with
  | zero =>
    intro listed a _ _ hr hy H
    refine ⟨fun h => (by rw [h] at hr; cases hr), fun j hj => ?_⟩
    by_cases hji : j = i
    · subst hji; exact ⟨fun h => absurd h hic, fun _ => hy.stOp hi H⟩
    · have := ready_mono hj hji
      rw [H.1] at this
      cases this
  | succ fuel ih =>
    intro listed a hwait hfree hr hy H
    have hun := (mem_ready.1 hr).1
    refine ⟨fun h => (by rw [h] at hr; cases hr), fun j hj => ?_⟩
    by_cases hji : j = i
    · subst hji; exact ⟨fun h => absurd h hic, fun _ => hy.stOp hi H⟩
    · obtain ⟨hjun, oj, hoj, hall⟩ := mem_ready.1 hj
      have hnot : ∀ e ∈ oj.after, Region.binds md e = true → e.on ≠ i := fun e he hb heq => by
        have h1 := hall e he hb
        rw [heq, getD_both hun] at h1
        cases h1
      refine ⟨fun hc => ?_, fun hc => ?_⟩
      · obtain ⟨oj', hoj', e, he, hb, hon⟩ := Region.waitsFor_spec (hwait j hc hjun)
        have : oj' = oj := Option.some.inj (hoj'.symm.trans hoj)
        subst this
        exact absurd hon (hnot e he hb)
      · have h1 := (H.2 j (ready_mono hj hji)).2 hc
        have h2 := stOp_swap hoj (hfree j oj hoj hji hjun hnot) (fun cs b => hsel i oi cs b hi) (fun cs b => hsel j oj cs b hoj) h1
        refine stOp_mono (fun a' h3 => ih (listed.setIfInBounds j true) a' (fun c hc' hu => hwait c hc' (getD_true_of_set hu))
          (fun k ok hk hki hun' hno => hfree k ok hk hki (getD_true_of_set hun') hno) (ready_mono hr (Ne.symm hji)) (hy.of_same h3.1.1 h3.1.2) ?_) h2
        rw [Array.setIfInBounds_comm _ _ hji]
        exact h3.2

/-- An operation that looks at no world: first anyway. -/
theorem wpAnyC_calm {i : Nat} {oi : Oper} {v : Value} {Ch : List Nat} (hi : ops[i]? = some oi) (hsel : ∀ (j : Nat) (o : Oper) cs b, ops[j]? = some o → o.op ≠ .select cs b)
    (hic : i ∉ Ch) (hQ : ∀ c a w, Q (.panic c) (a.put oi.dst v) w → Q (.panic c) a w) :
    ∀ (fuel : Nat) (listed : Array Bool) (a : Act) (w : World),
      (∀ j oj, ops[j]? = some oj → j ≠ i → listed.getD j true = false → (∀ e ∈ oj.after, Region.binds md e = true → e.on ≠ i) → oi.apart ops oj = true) →
      i ∈ Region.ready md ops listed → Yields P ops oi v a →
      wpAnyC P md ops Q Ch fuel (listed.setIfInBounds i true) (a.put oi.dst v) w → wpAnyC P md ops Q Ch (fuel + 1) listed a w := by
  have yAt : ∀ (a : Act) (w : World), Yields P ops oi v a → YieldsAt P ops w oi v a := fun a w h => h.imp (fun ⟨h1, h2⟩ => ⟨h1, .inl (h2 w)⟩) id
  intro fuel
  induction fuel with
  | zero =>
    intro listed a w _ hr hy H
    refine ⟨fun h => (by rw [h] at hr; cases hr), fun j hj => ?_⟩
    by_cases hji : j = i
    · subst hji; exact ⟨fun h => absurd h hic, fun _ => (yAt a w hy).stOp hi H⟩
    · have := ready_mono hj hji
      rw [H.1] at this
      cases this
  | succ fuel ih =>
    intro listed a w hfree hr hy H
    have hun := (mem_ready.1 hr).1
    refine ⟨fun h => (by rw [h] at hr; cases hr), fun j hj => ?_⟩
    by_cases hji : j = i
    · subst hji; exact ⟨fun h => absurd h hic, fun _ => (yAt a w hy).stOp hi H⟩
    · obtain ⟨hjun, oj, hoj, hall⟩ := mem_ready.1 hj
      have hnot : ∀ e ∈ oj.after, Region.binds md e = true → e.on ≠ i := fun e he hb heq => by
        have h1 := hall e he hb
        rw [heq, getD_both hun] at h1
        cases h1
      refine ⟨fun hc => ?_, fun hc => ?_⟩
      · have h1 := (H.2 j (ready_mono hj hji)).1 hc
        have h2 := wpOp_put hoj (hfree j oj hoj hji hjun hnot) (fun cs b => hsel i oi cs b hi) (fun cs b => hsel j oj cs b hoj) hQ hy h1
        refine wpOp_mono (fun a' w' h3 => ih (listed.setIfInBounds j true) a' w' (fun k ok hk hki hun' hno => hfree k ok hk hki (getD_true_of_set hun') hno) (ready_mono hr (Ne.symm hji)) h3.1 ?_) h2
        rw [Array.setIfInBounds_comm _ _ hji]
        exact h3.2
      · have h1 := (H.2 j (ready_mono hj hji)).2 hc
        have h2 := stOp_swap hoj (hfree j oj hoj hji hjun hnot) (fun cs b => hsel i oi cs b hi) (fun cs b => hsel j oj cs b hoj) h1
        refine stOp_mono (fun a' h3 => ih (listed.setIfInBounds j true) a' w (fun k ok hk hki hun' hno => hfree k ok hk hki (getD_true_of_set hun') hno) (ready_mono hr (Ne.symm hji)) (hy.of_same h3.1.1 h3.1.2) ?_) h2
        rw [Array.setIfInBounds_comm _ _ hji]
        exact h3.2

/-! ### the moves -/
def regSet : List Nat → Array Bool → Array Bool
  | [], listed => listed
  | i :: r, listed => regSet r (listed.setIfInBounds i true)

def regLex (md : Region.Mode) (ops : Array Oper) (Ch : List Nat) : List Nat → Array Bool → Bool
  | [], _ => true
  | i :: r, listed => !Ch.contains i && (Region.ready md ops listed).contains i && Region.free md ops listed i && (Ch.all fun c => listed.getD c true || Region.waitsFor md ops c i) && regLex md ops Ch r (listed.setIfInBounds i true)

/-- A run of reading operations, in this order. -/
theorem reg_heads {Ch : List Nat} {w : World} (hsel : Region.noSelect ops = true) :
    ∀ (is : List Nat) (g : Nat) (listed : Array Bool) (a : Act), regLex md ops Ch is listed = true →
      wpStill P ops w (fun a' => wpAnyC P md ops Q Ch g (regSet is listed) a' w) (is.map fun i => ops.getD i default) a → wpAnyC P md ops Q Ch (is.length + g) listed a w
  | [], g, _, _, _, h => by rw [List.length_nil, Nat.zero_add]; exact h
  | i :: is, g, listed, a, hB, h => by
    simp only [regLex, Bool.and_eq_true] at hB
    obtain ⟨⟨⟨⟨hc, hr⟩, hf⟩, hw⟩, hB'⟩ := hB
    have hr' : i ∈ Region.ready md ops listed := by simpa using hr
    obtain ⟨_, o, h0, _⟩ := mem_ready.1 hr'
    have e0 : ops.getD i default = o := by simp [Array.getD_eq_getD_getElem?, h0]
    simp only [List.map_cons, e0] at h
    have hst : stOp P ops w i (wpStill P ops w (fun a' => wpAnyC P md ops Q Ch g (regSet is (listed.setIfInBounds i true)) a' w) (is.map fun i => ops.getD i default)) a := by
      unfold stOp; simp only [h0]; exact h
    obtain ⟨v, hy, hK⟩ := yieldsAt_of_stOp h0 hst
    have hlen : (i :: is).length + g = (is.length + g) + 1 := by simp; omega
    rw [hlen]
    refine wpAnyC_still h0 (Region.noSelect_spec hsel) (by simpa using hc) _ listed a ?_ (Region.free_spec h0 hf) hr' hy (reg_heads hsel is g _ _ hB' hK)
    intro c hcm hu
    have := List.all_eq_true.1 hw c hcm
    simpa [hu] using this

/-- One operation that looks at no world. -/
theorem reg_calm {i : Nat} {oi : Oper} {v : Value} {Ch : List Nat} {fuel : Nat} {listed : Array Bool} {a : Act} {w : World} (hi : ops[i]? = some oi)
    (hs : Region.noSelect ops = true) (hB : (!Ch.contains i && Region.free md ops listed i && (Region.ready md ops listed).contains i) = true)
    (hQ : ∀ c a w, Q (.panic c) (a.put oi.dst v) w → Q (.panic c) a w) (hy : Yields P ops oi v a)
    (h : wpAnyC P md ops Q Ch fuel (listed.setIfInBounds i true) (a.put oi.dst v) w) : wpAnyC P md ops Q Ch (fuel + 1) listed a w := by
  simp only [Bool.and_eq_true] at hB
  obtain ⟨⟨hc, hf⟩, hr⟩ := hB
  exact wpAnyC_calm hi (Region.noSelect_spec hs) (by simpa using hc) hQ fuel listed a w (Region.free_spec hi hf) (by simpa using hr) hy h

/-- One operation of Ch, the only one that may come up. -/
theorem reg_turn {i : Nat} {o : Oper} {Ch : List Nat} {fuel : Nat} {listed : Array Bool} {a : Act} {w : World} (ho : ops[i]? = some o) (hB : (Ch.contains i && decide (Region.ready md ops listed = [i])) = true) (hg : o.guard = none)
    (h : ∀ K : Act → World → Prop, (∀ a w, wpAnyC P md ops Q Ch fuel (listed.setIfInBounds i true) a w → K a w) → o.wp P a w K Q) : wpAnyC P md ops Q Ch (fuel + 1) listed a w := by
  simp only [Bool.and_eq_true, decide_eq_true_eq] at hB
  refine ⟨fun h0 => (by rw [hB.2] at h0; cases h0), fun j hj => ?_⟩
  rw [hB.2] at hj
  obtain rfl : j = i := by simpa using hj
  refine ⟨fun _ => ?_, fun hc => absurd (by simpa using hB.1) hc⟩
  unfold wpOp
  rw [ho]
  have hw : Region.wanted o (yielded ops a.tmps) = true := by simp [Region.wanted, hg]
  simp only [hw, if_true]
  exact .inl (h _ fun _ _ h => h)

theorem reg_done {Ch : List Nat} {listed : Array Bool} {a : Act} {w : World} (hr : Region.ready md ops listed = []) (h : Q .normal a w) :
    ∀ fuel, wpAnyC P md ops Q Ch fuel listed a w
  | 0 => ⟨hr, h⟩
  | _ + 1 => ⟨fun _ => h, by rw [hr]; simp⟩
end
end Go.Proofs.Ytefllgpehhlkoaa
