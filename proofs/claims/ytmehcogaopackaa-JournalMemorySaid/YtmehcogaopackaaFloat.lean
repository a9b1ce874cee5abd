/-
  PLAIN: a region that draws its order and holds a chain of calls and one alloc that may come up anywhere among them: walked once, not once for each place of the alloc.
-/
import Derived.Test.YtmehcogaopackaaCrc
import Derived.OrdersHeld
namespace Go.Proofs.Ytmehcogaopackaa
open Go.RowKit

variable {P : Program} {ops : Array Oper} {Q : Exit → Act → World → Prop} {md : Region.Mode} {S : World → Prop} {σ : Type} {X : σ → World → Prop} {Y : Nat → World → Prop}

/-- operation al makes a variable, whose address goes into slot d; X: what holds beside the chain, Y: what holds of the variable -/
def Floats (P : Program) (ops : Array Oper) (S : World → Prop) (al : Nat) (d : Tmp) (X : σ → World → Prop) (Y : Nat → World → Prop) : Prop :=
  ∃ oa obj, ops[al]? = some oa ∧ oa.guard = none ∧ oa.dst = some d ∧ (∀ (a : Act) W, (execOp a.eval oa).run P W = .ok (.value (.pointer (some ⟨W.heap.size, 0, none⟩))) (W.alloc obj)) ∧
    (∀ st W, X st W → S W) ∧ (∀ st W, X st W → X st (W.alloc obj)) ∧ (∀ st W, X st W → Y W.heap.size (W.alloc obj))
/-- the two ways to stand at a place of the chain: the variable is not made yet, or it is -/
def Fork (P : Program) (md : Region.Mode) (ops : Array Oper) (Q : Exit → Act → World → Prop) (S : World → Prop) (al : Nat) (d : Tmp) (X : World → Prop) (Y : Nat → World → Prop) (fuel : Nat) (listed : Array Bool) (a : Act) : Prop :=
  (∀ W, X W → wpAnyH P md ops Q S (fuel + 1) listed a W) ∧ (∀ W k, X W → Y k W → wpAnyH P md ops Q S fuel (listed.setIfInBounds al true) (a.put (some d) (.pointer (some ⟨k, 0, none⟩))) W)
theorem wpOp_plain {i : Nat} {o : Oper} {K : Act → World → Prop} {a : Act} {w : World} (hi : ops[i]? = some o) (hg : o.guard = none) (h : o.wp P a w K Q) : wpOp P ops Q i K a w := by
  unfold wpOp
  simp only [hi]
  rw [if_pos (by unfold Region.wanted; rw [hg])]
  exact .inl h
theorem wpOp_alloc {al : Nat} {d : Tmp} {st : σ} (F : Floats P ops S al d X Y) {K : Act → World → Prop} {a : Act} {w : World} (hX : X st w)
    (h : ∀ W, S W → X st W → Y w.heap.size W → K (a.put (some d) (.pointer (some ⟨w.heap.size, 0, none⟩))) W) : wpOp P ops Q al K a w := by
  obtain ⟨oa, obj, h1, h2, h3, h4, h5, h6, h7⟩ := F
  refine wpOp_plain h1 h2 ?_
  unfold Oper.wp
  rw [h4, Oper.upon_value, h3]
  exact h _ (h5 _ _ (h6 _ _ hX)) (h6 _ _ hX) (h7 _ _ hX)
/-- the same operation where a slot that it does not look at holds something else -/
theorem wp_put_slot {oc : Oper} {a : Act} {d dc : Tmp} {u : Value} {w : World} {K : Act → World → Prop} (hd : oc.dst = some dc) (hsel : ∀ cs b, oc.op ≠ .select cs b) (hlook : d ∉ oc.looksAt ops) (hne : dc ≠ d)
    (hQ : ∀ c a w, Q (.panic c) a w → Q (.panic c) (a.put (some d) u) w) (h : oc.wp P a w (fun a' w' => K (a'.put (some d) u) w') Q) : oc.wp P (a.put (some d) u) w K Q := by
  have hc : ∀ (a : Act) x, (a.put (some d) u).put oc.dst x = (a.put oc.dst x).put (some d) u := fun a x => by
    rw [hd]
    exact Act.put_comm a (x := some d) (y := some dc) u x (fun d' hd' => by cases hd'; exact fun e => hne (by cases e; rfl))
  unfold Oper.wp at *
  rw [execOp_put oc hsel a (some d) u (fun d' hd' => by cases hd'; exact hlook)]
  generalize (execOp a.eval oc).run P w = r at *
  cases r with
  | ok n w' =>
    cases n <;> simp only [Oper.upon] at h ⊢
    case value v => rw [hc]; exact h
    case skip => rw [hc]; exact h
    case defer dd =>
      have := hc { a with defers := dd :: a.defers } undef
      rw [← Act.put_defers] at this
      rw [this]
      exact h
    case enter f args =>
      refine Calls.mono h fun e w'' he => ?_
      cases e with
      | returned v =>
        show K ((a.put (some d) u).put oc.dst v) w''
        rw [hc]
        exact he
      | panicked c => exact hQ _ _ _ he
      | outgrown => exact he
    case row row args => exact Rows.mono h fun v w'' he => by rw [hc]; exact he
  | halt x w' =>
    cases x <;> simp only [Oper.upon] at h ⊢
    case panic v => exact hQ _ _ _ h
theorem Fork.step {al ci : Nat} {d dc : Tmp} {oc : Oper} {st st' : σ} {fuel : Nat} {listed : Array Bool} {a : Act} {rs : List Nat} {v : Value} (F : Floats P ops S al d X Y)
    (hc : ops[ci]? = some oc) (hg : oc.guard = none) (hd : oc.dst = some dc) (hsel : Region.noSelect ops = true) (hlook : (oc.looksAt ops).contains d = false) (hne : (dc == d) = false) (hci : (ci == al) = false)
    (hr : Region.ready md ops listed = rs) (hrs : (rs == [ci, al] || rs == [al, ci]) = true) (hr' : Region.ready md ops (listed.setIfInBounds al true) = [ci])
    (hQ : ∀ c a u w, Q (.panic c) a w → Q (.panic c) (a.put (some d) u) w)
    (hwp : ∀ W K, X st W → (∀ W', X st' W' → (∀ k, Y k W → Y k W') → K (a.put (some dc) v) W') → oc.wp P a W K Q)
    (h : Fork P md ops Q S al d (X st') Y fuel (listed.setIfInBounds ci true) (a.put (some dc) v)) : Fork P md ops Q S al d (X st) Y (fuel + 1) listed a := by
  have hne' : dc ≠ d := by simpa using hne
  have hci' : ci ≠ al := by simpa using hci
  have hlook' : d ∉ oc.looksAt ops := by simpa using hlook
  have hset : (listed.setIfInBounds al true).setIfInBounds ci true = (listed.setIfInBounds ci true).setIfInBounds al true := Array.setIfInBounds_comm _ _ (Ne.symm hci')
  have hSX : ∀ st W, X st W → S W := by obtain ⟨_, _, _, _, _, _, h5, _, _⟩ := F; exact h5
  have second : ∀ W k, X st W → Y k W → wpAnyH P md ops Q S (fuel + 1) (listed.setIfInBounds al true) (a.put (some d) (.pointer (some ⟨k, 0, none⟩))) W := by
    intro W k hX hY
    refine wpAnyH_all hr' (by simp) (fun i hi => ?_)
    obtain rfl : i = ci := by simpa using hi
    refine wpOp_plain hc hg (wp_put_slot hd (fun cs b => Region.noSelect_spec hsel _ _ cs b hc) hlook' hne' (fun c a w => hQ c a _ w) (hwp W _ hX (fun W' hX' hY' => ?_)))
    refine ⟨hSX _ _ hX', ?_⟩
    rw [hset]
    exact h.2 W' k hX' (hY' k hY)
  refine ⟨fun W hX => ?_, second⟩
  have hrs' : rs = [ci, al] ∨ rs = [al, ci] := by simpa using hrs
  refine wpAnyH_all hr (by rcases hrs' with rfl | rfl <;> simp) (fun i hi => ?_)
  have hi' : i = ci ∨ i = al := by rcases hrs' with rfl | rfl <;> simp at hi <;> omega
  rcases hi' with rfl | rfl
  · exact wpOp_plain hc hg (hwp W _ hX (fun W' hX' _ => ⟨hSX _ _ hX', h.1 W' hX'⟩))
  · exact wpOp_alloc F hX (fun W' hS hX' hY' => ⟨hS, second W' _ hX' hY'⟩)
theorem Fork.base {al : Nat} {d : Tmp} {st : σ} {fuel : Nat} {listed : Array Bool} {a : Act} (F : Floats P ops S al d X Y) (hr : Region.ready md ops listed = [al])
    (h : ∀ W k, X st W → Y k W → wpAnyH P md ops Q S fuel (listed.setIfInBounds al true) (a.put (some d) (.pointer (some ⟨k, 0, none⟩))) W) : Fork P md ops Q S al d (X st) Y fuel listed a := by
  refine ⟨fun W hX => ?_, h⟩
  refine wpAnyH_all hr (by simp) (fun i hi => ?_)
  obtain rfl : i = al := by simpa using hi
  exact wpOp_alloc F hX (fun W' hS hX' hY' => ⟨hS, h W' _ hX' hY'⟩)
/-- the one operation that is left but for those that wait for it -/
theorem wpAnyH_one {i : Nat} {o : Oper} {fuel : Nat} {listed : Array Bool} {a : Act} {w : World} (hi : ops[i]? = some o) (hg : o.guard = none) (hr : Region.ready md ops listed = [i])
    (h : o.wp P a w (fun a' w' => S w' ∧ wpAnyH P md ops Q S fuel (listed.setIfInBounds i true) a' w') Q) : wpAnyH P md ops Q S (fuel + 1) listed a w := by
  refine wpAnyH_all hr (by simp) (fun j hj => ?_)
  obtain rfl : j = i := by simpa using hj
  exact wpOp_plain hi hg h
/-- a load (or whatever yields in every world that meets S), taken first -/
theorem wpAnyH_takeD {i : Nat} {oi : Oper} {d : Tmp} {v : Value} {fuel : Nat} {listed : Array Bool} {a : Act} {w : World} (hi : ops[i]? = some oi) (hd : oi.dst = some d) (hg : oi.guard = none)
    (hs : Region.noSelect ops = true) (hf : Region.free md ops listed i = true) (hr : (Region.ready md ops listed).contains i = true)
    (hQ : ∀ c a u w, Q (.panic c) (a.put (some d) u) w → Q (.panic c) a w) (hy : ∀ w, S w → (execOp a.eval oi).run P w = .ok (.value v) w) (hS : S w)
    (h : wpAnyH P md ops Q S fuel (listed.setIfInBounds i true) (a.put (some d) v) w) : wpAnyH P md ops Q S (fuel + 1) listed a w :=
  wpAnyH_take hi hs hf hr (fun c a w h => hQ c a v w (by rw [hd] at h; exact h)) (Or.inl ⟨by unfold Region.wanted; rw [hg], hy⟩) hS (by rw [hd]; exact h)
/-- what yields in every world that meets S, taken first while the alloc may come up -/
theorem Fork.take {al i : Nat} {d di : Tmp} {oi : Oper} {st : σ} {v : Value} {fuel : Nat} {listed : Array Bool} {a : Act} (hXS : ∀ W, X st W → S W) (hi : ops[i]? = some oi) (hg : oi.guard = none) (hd : oi.dst = some di)
    (hs : Region.noSelect ops = true) (hlook : (oi.looksAt ops).contains d = false) (hne : (di == d) = false) (hci : (i == al) = false) (hf : Region.free md ops listed i = true) (hr : (Region.ready md ops listed).contains i = true)
    (hf' : Region.free md ops (listed.setIfInBounds al true) i = true) (hr' : (Region.ready md ops (listed.setIfInBounds al true)).contains i = true)
    (hQ : ∀ c a d u w, Q (.panic c) (a.put (some d) u) w → Q (.panic c) a w) (hy : ∀ w, S w → (execOp a.eval oi).run P w = .ok (.value v) w)
    (h : Fork P md ops Q S al d (X st) Y fuel (listed.setIfInBounds i true) (a.put (some di) v)) : Fork P md ops Q S al d (X st) Y (fuel + 1) listed a := by
  have hne' : di ≠ d := by simpa using hne
  have hci' : i ≠ al := by simpa using hci
  have hlook' : d ∉ oi.looksAt ops := by simpa using hlook
  refine ⟨fun W hX => wpAnyH_takeD hi hd hg hs hf hr (fun c a u w => hQ c a _ u w) hy (hXS W hX) (h.1 W hX), fun W k hX hY => ?_⟩
  refine wpAnyH_takeD hi hd hg hs hf' hr' (fun c a u w => hQ c a _ u w) (v := v) (fun w hSw => ?_) (hXS W hX) ?_
  · rw [execOp_put oi (fun cs b => Region.noSelect_spec hs _ _ cs b hi) a (some d) _ (fun d' hd' => by cases hd'; exact hlook')]
    exact hy w hSw
  · have := h.2 W k hX hY
    rw [Array.setIfInBounds_comm _ _ hci', Act.put_comm a (x := some di) (y := some d) v _ (fun d' hd' => by cases hd'; exact fun e => hne' (by cases e; rfl))] at this
    exact this
end Go.Proofs.Ytmehcogaopackaa
