/-
  PLAIN: a region that draws its order and holds one load that may come up anywhere among other operations that leave its cell alone: walked once.
-/
import Derived.Test.YtmehcogaopackaaFloat
namespace Go.Proofs.Ytmehcogaopackaa
open Go.RowKit
variable {P : Program} {ops : Array Oper} {Q : Exit → Act → World → Prop} {md : Region.Mode} {S : World → Prop}
/-- the two ways to stand: operation al (whose value is v wherever X holds) has not come up yet, or it has -/
def Pend (P : Program) (md : Region.Mode) (ops : Array Oper) (Q : Exit → Act → World → Prop) (S : World → Prop) (al : Nat) (d : Tmp) (v : Value) (X : World → Prop) (fuel : Nat) (listed : Array Bool) (a : Act) : Prop :=
  (∀ W, X W → wpAnyH P md ops Q S (fuel + 1) listed a W) ∧ (∀ W, X W → wpAnyH P md ops Q S fuel (listed.setIfInBounds al true) (a.put (some d) v) W)
theorem Pend.start {al : Nat} {d : Tmp} {v : Value} {X : World → Prop} {fuel : Nat} {listed : Array Bool} {a : Act} {W : World} (h : Pend P md ops Q S al d v X fuel listed a) (hX : X W) : wpAnyH P md ops Q S (fuel + 1) listed a W := h.1 W hX
theorem wpOp_value {i : Nat} {o : Oper} {d : Tmp} {v : Value} {K : Act → World → Prop} {a : Act} {w : World} (hi : ops[i]? = some o) (hg : o.guard = none) (hd : o.dst = some d) (hrun : (execOp a.eval o).run P w = .ok (.value v) w) (h : K (a.put (some d) v) w) : wpOp P ops Q i K a w := by
  refine wpOp_plain hi hg ?_
  unfold Oper.wp
  rw [hrun, Oper.upon_value, hd]
  exact h
theorem Pend.step {al ci : Nat} {d dc : Tmp} {oa oc : Oper} {v : Value} {X : World → Prop} {X' : Value → World → Prop} {fuel : Nat} {listed : Array Bool} {a : Act} {rs : List Nat}
    (ha : ops[al]? = some oa) (hag : oa.guard = none) (had : oa.dst = some d) (hS : ∀ W, S W)
    (hc : ops[ci]? = some oc) (hg : oc.guard = none) (hd : oc.dst = some dc) (hsel : Region.noSelect ops = true) (hlook : (oc.looksAt ops).contains d = false) (hne : (dc == d) = false) (hci : (ci == al) = false)
    (hr : Region.ready md ops listed = rs) (hrs : (rs == [ci, al] || rs == [al, ci]) = true) (hr' : Region.ready md ops (listed.setIfInBounds al true) = [ci])
    (hQ : ∀ c a u w, Q (.panic c) a w → Q (.panic c) (a.put (some d) u) w)
    (hrun : ∀ W, X W → (execOp a.eval oa).run P W = .ok (.value v) W)
    (hwp : ∀ W K, X W → (∀ u W', X' u W' → K (a.put (some dc) u) W') → oc.wp P a W K Q)
    (h : ∀ u, Pend P md ops Q S al d v (X' u) fuel (listed.setIfInBounds ci true) (a.put (some dc) u)) : Pend P md ops Q S al d v X (fuel + 1) listed a := by
  have hne' : dc ≠ d := by simpa using hne
  have hci' : ci ≠ al := by simpa using hci
  have hlook' : d ∉ oc.looksAt ops := by simpa using hlook
  have hset : (listed.setIfInBounds al true).setIfInBounds ci true = (listed.setIfInBounds ci true).setIfInBounds al true := Array.setIfInBounds_comm _ _ (Ne.symm hci')
  have second : ∀ W, X W → wpAnyH P md ops Q S (fuel + 1) (listed.setIfInBounds al true) (a.put (some d) v) W := by
    intro W hX
    refine wpAnyH_all hr' (by simp) (fun i hi => ?_)
    obtain rfl : i = ci := by simpa using hi
    refine wpOp_plain hc hg (wp_put_slot hd (fun cs b => Region.noSelect_spec hsel _ _ cs b hc) hlook' hne' (fun c a w => hQ c a _ w) (hwp W _ hX (fun u W' hX' => ?_)))
    refine ⟨hS _, ?_⟩
    rw [hset]
    exact (h u).2 W' hX'
  refine ⟨fun W hX => ?_, second⟩
  have hrs' : rs = [ci, al] ∨ rs = [al, ci] := by simpa using hrs
  refine wpAnyH_all hr (by rcases hrs' with rfl | rfl <;> simp) (fun i hi => ?_)
  have hi' : i = ci ∨ i = al := by rcases hrs' with rfl | rfl <;> simp at hi <;> omega
  rcases hi' with rfl | rfl
  · exact wpOp_plain hc hg (hwp W _ hX (fun u W' hX' => ⟨hS _, (h u).1 W' hX'⟩))
  · exact wpOp_value ha hag had (hrun W hX) ⟨hS _, second W hX⟩
theorem Pend.base {al : Nat} {d : Tmp} {oa : Oper} {v : Value} {X : World → Prop} {fuel : Nat} {listed : Array Bool} {a : Act}
    (ha : ops[al]? = some oa) (hag : oa.guard = none) (had : oa.dst = some d) (hS : ∀ W, S W) (hr : Region.ready md ops listed = [al])
    (hrun : ∀ W, X W → (execOp a.eval oa).run P W = .ok (.value v) W)
    (h : ∀ W, X W → wpAnyH P md ops Q S fuel (listed.setIfInBounds al true) (a.put (some d) v) W) : Pend P md ops Q S al d v X fuel listed a := by
  refine ⟨fun W hX => ?_, h⟩
  refine wpAnyH_all hr (by simp) (fun i hi => ?_)
  obtain rfl : i = al := by simpa using hi
  exact wpOp_value ha hag had (hrun W hX) ⟨hS _, h W hX⟩
end Go.Proofs.Ytmehcogaopackaa
