/-
  PLAIN: a region that draws its order and holds append(append([]T{}, xs...), y): two makings of memory and two appends, their orders gone through once.
-/
import Derived.OrdersHeld
import Derived.Test.YtmehcogaopackaaGreatGC
import Derived.Test.YtmehcogaopackaaGreatGH
namespace Go.Proofs.YtmehcogaopackaaGreat
open Go.RowKit
set_option linter.unusedVariables false
set_option linter.unusedSimpArgs false

variable {P : Program} {ops : Array Oper} {Q : Exit → Act → World → Prop} {md : Region.Mode} {S : World → Prop}

/-- whatever order is picked from here on; S holds behind every operation but the last one, a store -/
def wpAnyE (P : Program) (md : Region.Mode) (ops : Array Oper) (Q : Exit → Act → World → Prop) (S : World → Prop) (last : Nat) : Nat → Array Bool → Act → World → Prop
  | 0, listed, a, w => Region.ready md ops listed = [] ∧ Q .normal a w
  | fuel + 1, listed, a, w =>
    (Region.ready md ops listed = [] → Q .normal a w) ∧
    ∀ i ∈ Region.ready md ops listed, wpOp P ops Q i (fun a' w' => (i = last ∨ S w') ∧ wpAnyE P md ops Q S last fuel (listed.setIfInBounds i true) a' w') a w
theorem wpAny_of_E {last : Nat} : ∀ (fuel : Nat) (listed : Array Bool) (a : Act) (w : World), wpAnyE P md ops Q S last fuel listed a w → wpAny P md ops Q fuel listed a w
  | 0, _, _, _, h => h
  | fuel + 1, _, _, _, h => ⟨h.1, fun i hi => wpOp_mono (fun a' w' h' => wpAny_of_E fuel _ a' w' h'.2) (h.2 i hi)⟩
/-- the last operation waits for operation i -/
def waitsFor (md : Region.Mode) (ops : Array Oper) (last i : Nat) : Bool := match ops[last]? with | some o => o.after.any fun e => Region.binds md e && (e.on == i) | none => false
theorem wpAnyE_first {last i : Nat} {oi : Oper} {v : Value} (hi : ops[i]? = some oi) (hil : waitsFor md ops last i = true) (hsel : ∀ (j : Nat) (o : Oper) cs b, ops[j]? = some o → o.op ≠ .select cs b)
    (hQ : ∀ c a w, Q (.panic c) (a.put oi.dst v) w → Q (.panic c) a w) :
    ∀ (fuel : Nat) (listed : Array Bool) (a : Act) (w : World),
      (∀ j oj, ops[j]? = some oj → j ≠ i → listed.getD j true = false → (∀ e ∈ oj.after, Region.binds md e = true → e.on ≠ i) → oi.apart ops oj = true) →
      i ∈ Region.ready md ops listed → YieldsIf P ops S oi v a → S w →
      wpAnyE P md ops Q S last fuel (listed.setIfInBounds i true) (a.put oi.dst v) w → wpAnyE P md ops Q S last (fuel + 1) listed a w := by
  intro fuel
  induction fuel with
  | zero =>
    intro listed a w _ hr hy hS H
    refine ⟨fun h => (by rw [h] at hr; cases hr), fun j hj => ?_⟩
    by_cases hji : j = i
    · subst hji; exact hy.wpOp hi hS ⟨.inr hS, H⟩
    · have := ready_mono hj hji
      rw [H.1] at this
      cases this
  | succ fuel ih =>
    intro listed a w hfree hr hy hS H
    refine ⟨fun h => (by rw [h] at hr; cases hr), fun j hj => ?_⟩
    by_cases hji : j = i
    · subst hji; exact hy.wpOp hi hS ⟨.inr hS, H⟩
    · have h1 := H.2 j (ready_mono hj hji)
      obtain ⟨hjun, oj, hoj, hall⟩ := mem_ready.1 hj
      have hnot : ∀ e ∈ oj.after, Region.binds md e = true → e.on ≠ i := fun e he hb heq => by
        have h1 := hall e he hb
        have h0 := (mem_ready.1 hr).1
        rw [heq] at h1
        rcases Nat.lt_or_ge i listed.size with h' | h'
        · simp [h'] at h0 h1; rw [h0] at h1; cases h1
        · simp [Array.getElem?_eq_none h'] at h1
      have hjl : j ≠ last := fun e => by
        subst e
        unfold waitsFor at hil
        rw [hoj] at hil
        simp only [Array.any_eq_true, Bool.and_eq_true, beq_iff_eq] at hil
        obtain ⟨x, hx, hb, ho⟩ := hil
        exact hnot _ (Array.getElem_mem hx) hb ho
      have h2 := wpOp_putIf hoj (hfree j oj hoj hji hjun hnot) (fun cs b => hsel i oi cs b hi) (fun cs b => hsel j oj cs b hoj) hQ hy h1
      have hfree' : ∀ k ok, ops[k]? = some ok → k ≠ i → (listed.setIfInBounds j true).getD k true = false →
          (∀ e ∈ ok.after, Region.binds md e = true → e.on ≠ i) → oi.apart ops ok = true := fun k ok hk hki hun hno => by
        refine hfree k ok hk hki ?_ hno
        by_cases hjk : j = k
        · subst hjk; exact hjun
        · rw [getD_set_ne true hjk] at hun; exact hun
      refine wpOp_mono (fun a' w' h3 => ?_) h2
      have hS' : S w' := h3.2.1.resolve_left hjl
      refine ⟨.inr hS', ih (listed.setIfInBounds j true) a' w' hfree' (ready_mono hr (Ne.symm hji)) h3.1 hS' ?_⟩
      rw [Array.setIfInBounds_comm _ _ hji]
      exact h3.2.2
theorem wpAnyE_all {last : Nat} {rs : List Nat} {fuel : Nat} {listed : Array Bool} {a : Act} {w : World} (hr : Region.ready md ops listed = rs) (hne : rs ≠ [])
    (h : ∀ i ∈ rs, wpOp P ops Q i (fun a' w' => S w' ∧ wpAnyE P md ops Q S last fuel (listed.setIfInBounds i true) a' w') a w) : wpAnyE P md ops Q S last (fuel + 1) listed a w :=
  ⟨fun h0 => absurd (hr ▸ h0) hne, hr ▸ fun i hi => wpOp_mono (fun _ _ h => ⟨.inr h.1, h.2⟩) (h i hi)⟩
/-- a load (or whatever yields in every world that meets S), taken first -/
theorem wpAnyE_takeD {last i : Nat} {oi : Oper} {d : Tmp} {v : Value} {fuel : Nat} {listed : Array Bool} {a : Act} {w : World} (hi : ops[i]? = some oi) (hd : oi.dst = some d) (hg : oi.guard = none) (hil : waitsFor md ops last i = true)
    (hs : Region.noSelect ops = true) (hf : Region.free md ops listed i = true) (hr : (Region.ready md ops listed).contains i = true)
    (hQ : ∀ c a u w, Q (.panic c) (a.put (some d) u) w → Q (.panic c) a w) (hy : ∀ w, S w → (execOp a.eval oi).run P w = .ok (.value v) w) (hS : S w)
    (h : wpAnyE P md ops Q S last fuel (listed.setIfInBounds i true) (a.put (some d) v) w) : wpAnyE P md ops Q S last (fuel + 1) listed a w :=
  wpAnyE_first hi hil (Region.noSelect_spec hs) (fun c a w h => hQ c a v w (by rw [hd] at h; exact h)) fuel listed a w (Region.free_spec hi hf) (by simpa using hr) (Or.inl ⟨by unfold Region.wanted; rw [hg], hy⟩) hS (by rw [hd]; exact h)
theorem wpOp_plain' {i : Nat} {o : Oper} {K : Act → World → Prop} {a : Act} {w : World} (hi : ops[i]? = some o) (hg : o.guard = none) (h : o.wp P a w K Q) : wpOp P ops Q i K a w := wpOp_plain hi hg h
/-- the one operation that is left but for those that wait for it -/
theorem wpAnyE_one {last i : Nat} {o : Oper} {fuel : Nat} {listed : Array Bool} {a : Act} {w : World} (hi : ops[i]? = some o) (hg : o.guard = none) (hr : Region.ready md ops listed = [i])
    (h : o.wp P a w (fun a' w' => S w' ∧ wpAnyE P md ops Q S last fuel (listed.setIfInBounds i true) a' w') Q) : wpAnyE P md ops Q S last (fuel + 1) listed a w := by
  refine wpAnyE_all hr (by simp) (fun j hj => ?_)
  obtain rfl : j = i := by simpa using hj
  exact wpOp_plain hi hg h
/-- the last one -/
theorem wpAnyE_last {last : Nat} {o : Oper} {fuel : Nat} {listed : Array Bool} {a : Act} {w : World} (hi : ops[last]? = some o) (hg : o.guard = none) (hr : Region.ready md ops listed = [last]) (hr' : Region.ready md ops (listed.setIfInBounds last true) = [])
    (h : o.wp P a w (fun a' w' => Q .normal a' w') Q) : wpAnyE P md ops Q S last (fuel + 1) listed a w := by
  refine ⟨fun h0 => (by rw [hr] at h0; cases h0), fun j hj => ?_⟩
  rw [hr] at hj
  obtain rfl : j = last := by simpa using hj
  refine wpOp_mono (fun a' w' h' => ⟨.inl rfl, ?_⟩) (wpOp_plain hi hg h)
  cases fuel with
  | zero => exact ⟨hr', h'⟩
  | succ n => exact ⟨fun _ => h', by rw [hr']; simp⟩
theorem wp_region_E {last : Nat} {id : Nat} {a : Act} {w : World} (hm : P.follows .mixedOrders = true)
    (h : wpAnyE P .any ops Q S last ops.size (Array.replicate ops.size false) a w.drew) : (Code.region id ops true).wp P Q a w :=
  wp_region_any hm (wpAny_of_E _ _ _ _ h)
theorem run_append_none {w : World} (base : Nat) (t ty e : TypeId) (i : TypeInfo) (size : Nat) (ht : P.underlying t = some (.slice e)) (hi : P.info? e = some i)
    (v : Value) (n : Nat) (xs : List Value) (hown : w.ownsRow base e size v n xs) (c : Nat) :
    (Builtin.append_ #[t, t] ty #[v, .slice none 0 c]).run P w = .ok v w := by
  rcases hown.2 with ⟨rfl, rfl⟩ | ⟨g, cap, cur, rfl, _, _, hnc, _⟩
  · simp [Builtin.append_, run_underlying ht, sizeOf, typeInfo, hi, Builtin.lenOf, Builtin.firstCells]
  · simp [Builtin.append_, run_underlying ht, sizeOf, typeInfo, hi, Builtin.lenOf, Builtin.firstCells, hnc, storeCells]
/-- an append to a row of the call's own as an operation; what is appended may be nil -/
theorem wpo_append {o : Oper} {a : Act} {w : World} {K : Act → World → Prop}
    {s x : Operand} {t : TypeId} (hop : o.op = Op.call { callee := Callee.builtin Builtin.append, args := #[s, x], argTypes := #[t, t] })
    (base : Nat) {e : TypeId} {i : TypeInfo} {z : Value} {size bytes : Nat} (h1 : P.underlying t = some (.slice e)) (h2 : P.info? e = some i) (h3 : i.zero = some z) (h4 : i.size = size) (h5 : i.bytes = bytes) (h6 : z.cells.size = size) (h7 : 0 < size)
    (v : Value) (n : Nat) (xs : List Value) (hs : a.eval s = v) (hown : w.ownsRow base e size v n xs)
    (m : Nat) (news : List Value) (hx : (∃ ad c, a.eval x = .slice (some ad) m c ∧ ∀ j u, news[j]? = some u → w.cell? (ad.add j) = some u) ∨ (∃ c, a.eval x = .slice none 0 c ∧ m = 0 ∧ news = [])) (hn : news.length = m * size) (h1c : ∀ u ∈ news, u.oneCell' = true)
    (b1 : n + m ≤ maxLen) (b2 : (n + m) * bytes ≤ 140737488355328) (hbase : base ≤ w.heap.size)
    (hK : ∀ v' w', w'.ownsRow base e size v' (n + m) (xs ++ news) → w.grownBy w' v.ownBlock → K (a.put o.dst v') w') : Oper.wp P o a w K Q := by
  rcases hx with ⟨ad, c, hx, hc⟩ | ⟨c, hx, rfl, rfl⟩
  · obtain ⟨v', w', hrun, r1, r2, _, r4⟩ := run_append_own_at (P := P) w base t o.type e i z size bytes h1 h2 h3 h4 h5 h6 h7 v n xs hown ad m c news hn hc h1c b1 b2 hbase
    unfold Oper.wp
    simp [execOp, hop, resolve, invoke, builtin, hs, hx, hrun, Result.andThen]
    exact hK v' w' r1 r2
  · have hrun := run_append_none (P := P) base t o.type e i size h1 h2 v n xs hown c
    unfold Oper.wp
    simp [execOp, hop, resolve, invoke, builtin, hs, hx, hrun, Result.andThen]
    exact hK v w (by simpa using hown) (World.grownBy.refl w _)
theorem wpo_value {o : Oper} {d : Tmp} {a : Act} {w w' : World} {v : Value} {K : Act → World → Prop} (hd : o.dst = some d) (hx : (execOp a.eval o).run P w = .ok (.value v) w') (h : K (a.put (some d) v) w') : Oper.wp P o a w K Q := by
  unfold Oper.wp
  rw [hx, Oper.upon_value, hd]
  exact h
theorem ownsRow_empty {w : World} {base : Nat} {e : TypeId} {size : Nat} (hb : base ≤ w.heap.size) : (w.alloc (.cells #[] e)).ownsRow base e size (.slice (some ⟨w.heap.size, 0, none⟩) 0 0) 0 [] := by
  refine ⟨by simp, .inr ⟨w.heap.size, 0, #[], rfl, hb, heap_alloc_new w _, Nat.le_refl _, Nat.zero_le _, by simp, by simp⟩⟩
set_option maxHeartbeats 1000000 in
theorem dbl_append {last iA iP iB iQ : Nat} {oA oP oB oQ : Oper} {dA dP dB dQ : Tmp} {t e : TypeId} {i : TypeInfo} {z : Value} {size bytes : Nat} {x : Operand} {rs0 rsA : List Nat}
    (t1 : P.underlying t = some (.slice e)) (t2 : P.info? e = some i) (t3 : i.zero = some z) (t4 : i.size = size) (t5 : i.bytes = bytes) (t6 : z.cells.size = size) (t7 : 0 < size)
    {fuel : Nat} {listed : Array Bool} {a : Act} {w : World} {sv : Value} {m : Nat} {news one : List Value}
    (kA : ops[iA]? = some oA) (gA : oA.guard = none) (eA : oA.dst = some dA)
    (kP : ops[iP]? = some oP) (gP : oP.guard = none) (eP : oP.dst = some dP) (pP : oP.op = Op.call { callee := Callee.builtin Builtin.append, args := #[.tmp dA, x], argTypes := #[t, t] })
    (kB : ops[iB]? = some oB) (gB : oB.guard = none) (eB : oB.dst = some dB)
    (kQ : ops[iQ]? = some oQ) (gQ : oQ.guard = none) (eQ : oQ.dst = some dQ) (pQ : oQ.op = Op.call { callee := Callee.builtin Builtin.append, args := #[.tmp dP, .tmp dB], argTypes := #[t, t] })
    (r0 : Region.ready md ops listed = rs0) (r0' : (rs0 == [iA, iB] || rs0 == [iB, iA]) = true)
    (rA : Region.ready md ops (listed.setIfInBounds iA true) = rsA) (rA' : (rsA == [iP, iB] || rsA == [iB, iP]) = true)
    (rB : Region.ready md ops (listed.setIfInBounds iB true) = [iA])
    (rAP : Region.ready md ops ((listed.setIfInBounds iA true).setIfInBounds iP true) = [iB])
    (rAB : Region.ready md ops ((listed.setIfInBounds iA true).setIfInBounds iB true) = [iP])
    (rABP : Region.ready md ops (((listed.setIfInBounds iA true).setIfInBounds iP true).setIfInBounds iB true) = [iQ])
    (nAB : (iA == iB) = false) (nPB : (iP == iB) = false) (nd1 : (dA == dB) = false) (nd2 : (dP == dB) = false)
    (xA : ∀ (a' : Act) W, (execOp a'.eval oA).run P W = .ok (.value (.slice (some ⟨W.heap.size, 0, none⟩) 0 0)) (W.alloc (.cells #[] e)))
    (xB0 : ∀ W, (execOp a.eval oB).run P W = .ok (.value (.slice (some ⟨W.heap.size, 0, none⟩) 1 1)) (W.alloc (.cells one.toArray e)))
    (xB1 : ∀ u W, (execOp (a.put (some dA) u).eval oB).run P W = .ok (.value (.slice (some ⟨W.heap.size, 0, none⟩) 1 1)) (W.alloc (.cells one.toArray e)))
    (xB2 : ∀ u v W, (execOp ((a.put (some dA) u).put (some dP) v).eval oB).run P W = .ok (.value (.slice (some ⟨W.heap.size, 0, none⟩) 1 1)) (W.alloc (.cells one.toArray e)))
    (v1 : ∀ u, (a.put (some dA) u).eval (.tmp dA) = u ∧ (a.put (some dA) u).eval x = sv)
    (v2 : ∀ u b, ((a.put (some dA) u).put (some dB) b).eval (.tmp dA) = u ∧ ((a.put (some dA) u).put (some dB) b).eval x = sv)
    (v3 : ∀ u p b, (((a.put (some dA) u).put (some dP) p).put (some dB) b).eval (.tmp dP) = p ∧ (((a.put (some dA) u).put (some dP) p).put (some dB) b).eval (.tmp dB) = b)
    (hsv : (∃ ad c, sv = .slice (some ad) m c ∧ ∀ W', Below w.heap.size w W' → ∀ j u, news[j]? = some u → W'.cell? (ad.add j) = some u) ∨ (∃ c, sv = .slice none 0 c ∧ m = 0 ∧ news = []))
    (hn : news.length = m * size) (ho : one.length = size) (h1c : ∀ u ∈ news, u.oneCell' = true) (h1o : ∀ u ∈ one, u.oneCell' = true) (b1 : m + 1 ≤ maxLen) (b2 : (m + 1) * bytes ≤ 140737488355328)
    (hS : ∀ W', Below w.heap.size w W' → S W')
    (h : ∀ W' uA uP uB a' c', Below w.heap.size w W' → W'.ownsRow w.heap.size e size (.slice a' (m + 1) c') (m + 1) (news ++ one) →
      wpAnyE P md ops Q S last fuel ((((listed.setIfInBounds iA true).setIfInBounds iP true).setIfInBounds iB true).setIfInBounds iQ true) ((((a.put (some dA) uA).put (some dP) uP).put (some dB) uB).put (some dQ) (.slice a' (m + 1) c')) W') :
    wpAnyE P md ops Q S last (fuel + 4) listed a w := by
  have nAB' : iA ≠ iB := by simpa using nAB
  have nPB' : iP ≠ iB := by simpa using nPB
  have nd1' : dA ≠ dB := by simpa using nd1
  have nd2' : dP ≠ dB := by simpa using nd2
  have bm : m ≤ maxLen := by omega
  have bm2 : (0 + m) * bytes ≤ 140737488355328 := by
    have : m * bytes ≤ (m + 1) * bytes := Nat.mul_le_mul_right _ (by omega)
    rw [Nat.zero_add]; omega
  -- the last append
  have fin : ∀ W1 uA vP g, Below w.heap.size w W1 → W1.ownsRow w.heap.size e size vP m news → (∀ j u, one[j]? = some u → W1.cell? ((⟨g, 0, none⟩ : Addr).add j) = some u) →
      wpAnyE P md ops Q S last (fuel + 1) (((listed.setIfInBounds iA true).setIfInBounds iP true).setIfInBounds iB true) (((a.put (some dA) uA).put (some dP) vP).put (some dB) (.slice (some ⟨g, 0, none⟩) 1 1)) W1 := by
    intro W1 uA vP g hb hown hc
    refine wpAnyE_all rABP (by simp) (fun k hk => ?_)
    obtain rfl : k = iQ := by simpa using hk
    refine wpOp_plain kQ gQ (wpo_append pQ w.heap.size t1 t2 t3 t4 t5 t6 t7 vP m news (v3 _ _ _).1 hown 1 one (.inl ⟨⟨g, 0, none⟩, 1, (v3 _ _ _).2, hc⟩) (by rw [ho]; omega) h1o b1 b2 hb.size ?_)
    intro v' w' hown' hg
    rw [eQ]
    obtain ⟨a', c', rfl⟩ := own_form hown'
    have hb' : Below w.heap.size w w' := hb.grown hg hb.size (fun r hr => (hown.lt r hr).1)
    exact ⟨hS _ hb', h _ _ _ _ _ _ hb' hown'⟩
  have oneCells : ∀ W1 : World, ∀ j u, one[j]? = some u → (W1.alloc (.cells one.toArray e)).cell? ((⟨W1.heap.size, 0, none⟩ : Addr).add j) = some u := fun W1 j u hu => by
    rw [show (⟨W1.heap.size, 0, none⟩ : Addr).add j = ⟨W1.heap.size, j, none⟩ from by unfold Addr.add; split <;> simp_all]
    exact cell_in (heap_alloc_new W1 _) j u (by simpa using hu)
  have src : ∀ {a' : Act} {W1 : World}, a'.eval x = sv → Below w.heap.size w W1 → (∃ ad c, a'.eval x = .slice (some ad) m c ∧ ∀ j u, news[j]? = some u → W1.cell? (ad.add j) = some u) ∨ (∃ c, a'.eval x = .slice none 0 c ∧ m = 0 ∧ news = []) := by
    intro a' W1 he hb
    rcases hsv with ⟨ad, c, h1, h2⟩ | ⟨c, h1, h2, h3⟩
    · exact .inl ⟨ad, c, he.trans h1, h2 W1 hb⟩
    · exact .inr ⟨c, he.trans h1, h2, h3⟩
  -- A is made, B is not
  have stA : ∀ W1 g, Below w.heap.size w W1 → W1.ownsRow w.heap.size e size (.slice (some ⟨g, 0, none⟩) 0 0) 0 [] →
      wpAnyE P md ops Q S last (fuel + 1 + 1 + 1) (listed.setIfInBounds iA true) (a.put (some dA) (.slice (some ⟨g, 0, none⟩) 0 0)) W1 := by
    intro W1 g hb hown
    refine wpAnyE_all rA (by rcases (by simpa using rA' : rsA = [iP, iB] ∨ rsA = [iB, iP]) with rfl | rfl <;> simp) (fun k hk => ?_)
    have hk' : k = iP ∨ k = iB := by rcases (by simpa using rA' : rsA = [iP, iB] ∨ rsA = [iB, iP]) with rfl | rfl <;> simp at hk <;> omega
    rcases hk' with rfl | rfl
    · refine wpOp_plain kP gP (wpo_append pP w.heap.size t1 t2 t3 t4 t5 t6 t7 _ 0 [] (v1 _).1 hown m news (src (v1 _).2 hb) hn h1c (by omega) bm2 hb.size ?_)
      intro v' w' hown' hg
      rw [eP]
      have hb' : Below w.heap.size w w' := hb.grown hg hb.size (fun r hr => (hown.lt r hr).1)
      rw [Nat.zero_add, List.nil_append] at hown'
      refine ⟨hS _ hb', wpAnyE_all rAP (by simp) (fun k hk => ?_)⟩
      obtain rfl : k = iB := by simpa using hk
      refine wpOp_plain kB gB (wpo_value eB (xB2 _ _ _) ?_)
      have hb2 := hb'.alloc hb'.size (.cells one.toArray e)
      exact ⟨hS _ hb2, fin _ _ _ _ hb2 (hown'.alloc _) (oneCells w')⟩
    · refine wpOp_plain kB gB (wpo_value eB (xB1 _ _) ?_)
      have hb2 := hb.alloc hb.size (.cells one.toArray e)
      refine ⟨hS _ hb2, wpAnyE_all rAB (by simp) (fun k hk => ?_)⟩
      obtain rfl : k = iP := by simpa using hk
      have hgW : g < W1.heap.size := (hown.lt g rfl).2
      refine wpOp_plain kP gP (wpo_append pP w.heap.size t1 t2 t3 t4 t5 t6 t7 _ 0 [] (v2 _ _).1 (hown.alloc _) m news (src (v2 _ _).2 hb2) hn h1c (by omega) bm2 hb2.size ?_)
      intro v' w' hown' hg
      rw [eP]
      have hb' : Below w.heap.size w w' := hb2.grown hg hb2.size (fun r hr => (hown.lt r hr).1)
      rw [Nat.zero_add, List.nil_append] at hown'
      refine ⟨hS _ hb', ?_⟩
      rw [Act.put_comm _ (x := some dB) (y := some dP) _ v' (fun d' hd' => by cases hd'; exact fun e => nd2' (by cases e; rfl)), Array.setIfInBounds_comm _ _ (Ne.symm nPB')]
      refine fin _ _ _ _ hb' hown' (fun j u hu => ?_)
      have hc := oneCells W1 j u hu
      refine (World.cell?_of_block (hg.block _ ?_ ?_)).trans hc
      · have := World.block_lt_of_cell? _ _ hc
        exact this
      · intro e
        simp only [Value.ownBlock, Option.some.injEq] at e
        have : ((⟨W1.heap.size, 0, none⟩ : Addr).add j).block = W1.heap.size := by unfold Addr.add; split <;> simp_all
        omega
  refine wpAnyE_all r0 (by rcases (by simpa using r0' : rs0 = [iA, iB] ∨ rs0 = [iB, iA]) with rfl | rfl <;> simp) (fun k hk => ?_)
  have hk' : k = iA ∨ k = iB := by rcases (by simpa using r0' : rs0 = [iA, iB] ∨ rs0 = [iB, iA]) with rfl | rfl <;> simp at hk <;> omega
  have hb0 : Below w.heap.size w w := Below.refl _ _
  rcases hk' with rfl | rfl
  · refine wpOp_plain kA gA (wpo_value eA (xA _ _) ?_)
    have hb2 := hb0.alloc (Nat.le_refl _) (.cells #[] e)
    exact ⟨hS _ hb2, stA _ _ hb2 (ownsRow_empty (Nat.le_refl _))⟩
  · refine wpOp_plain kB gB (wpo_value eB (xB0 _) ?_)
    have hb2 := hb0.alloc (Nat.le_refl _) (.cells one.toArray e)
    refine ⟨hS _ hb2, wpAnyE_all rB (by simp) (fun k hk => ?_)⟩
    obtain rfl : k = iA := by simpa using hk
    refine wpOp_plain kA gA (wpo_value eA (xA _ _) ?_)
    have hb3 := hb2.alloc hb2.size (.cells #[] e)
    refine ⟨hS _ hb3, ?_⟩
    rw [Act.put_comm _ (x := some dB) (y := some dA) _ _ (fun d' hd' => by cases hd'; exact fun e => nd1' (by cases e; rfl)), Array.setIfInBounds_comm _ _ (Ne.symm nAB')]
    refine wpAnyE_all rAB (by simp) (fun k hk => ?_)
    obtain rfl : k = iP := by simpa using hk
    have hown : ((w.alloc (.cells one.toArray e)).alloc (.cells #[] e)).ownsRow w.heap.size e size (.slice (some ⟨(w.alloc (.cells one.toArray e)).heap.size, 0, none⟩) 0 0) 0 [] := ownsRow_empty hb2.size
    refine wpOp_plain kP gP (wpo_append pP w.heap.size t1 t2 t3 t4 t5 t6 t7 _ 0 [] (v2 _ _).1 hown m news (src (v2 _ _).2 hb3) hn h1c (by omega) bm2 hb3.size ?_)
    intro v' w' hown' hg
    rw [eP]
    have hb' : Below w.heap.size w w' := hb3.grown hg hb3.size (fun r hr => (hown.lt r hr).1)
    rw [Nat.zero_add, List.nil_append] at hown'
    refine ⟨hS _ hb', ?_⟩
    rw [Act.put_comm _ (x := some dB) (y := some dP) _ v' (fun d' hd' => by cases hd'; exact fun e => nd2' (by cases e; rfl)), Array.setIfInBounds_comm _ _ (Ne.symm nPB')]
    refine fin _ _ _ _ hb' hown' (fun j u hu => ?_)
    have hc := oneCells w j u hu
    have hlt : ((⟨w.heap.size, 0, none⟩ : Addr).add j).block = w.heap.size := by unfold Addr.add; split <;> simp_all
    have hc2 : ((w.alloc (.cells one.toArray e)).alloc (.cells #[] e)).cell? ((⟨w.heap.size, 0, none⟩ : Addr).add j) = some u := (World.cell?_of_block (by rw [hlt]; exact heap_alloc_old _ _ (by simp))).trans hc
    refine (World.cell?_of_block (hg.block _ ?_ ?_)).trans hc2
    · rw [hlt, World.size_alloc, World.size_alloc]; omega
    · intro e
      simp only [Value.ownBlock, Option.some.injEq, World.size_alloc] at e
      omega
end Go.Proofs.YtmehcogaopackaaGreat
