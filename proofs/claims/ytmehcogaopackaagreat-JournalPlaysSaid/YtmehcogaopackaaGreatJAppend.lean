/-
  The walk of the journal's Append.
-/
import Derived.Test.YtmehcogaopackaaGreatJSave
namespace Go.Proofs.YtmehcogaopackaaGreat
open Go.RowKit
set_option linter.unusedVariables false
set_option linter.unusedSimpArgs false
/-- what Append does -/
def jAppend (d : Ds) (S : Js) (fr : Nat) (l : List En) : Ds × Js × Nat :=
  if fr ≤ S.log.base ∨ S.log.base + S.log.l.length + 1 < fr ∨ anyBad l = true then (d, S, 1) else
  if l = [] then (d, S, if fr = S.log.base + S.log.l.length + 1 then 0 else 1) else
  if (Ds.sync' (d.add (entRecs fr l).flatten)).2 ≠ 0 then ((Ds.sync' (d.add (entRecs fr l).flatten)).1, S, (Ds.sync' (d.add (entRecs fr l).flatten)).2) else
  ((Ds.sync' (d.add (entRecs fr l).flatten)).1, ⟨S.hard, ⟨S.log.base, S.log.bterm, S.log.conf, S.log.l.take (fr - S.log.base - 1) ++ l⟩, S.image⟩, 0)
theorem entRecs_length : ∀ (l : List En) (i : Nat), (entRecs i l).length = l.length
  | [], _ => rfl
  | a :: l, i => by
    rw [entRecs, List.length_cons, entRecs_length l, List.length_cons]
theorem JnAt.relog {W W6 : World} {j p : Nat} {G : List Nat} {d : Ds} {S : Js} (h : JnAt W j p G d S) (hb : Below W.heap.size W W6) {vl : Value} {l : List En} (hr : W6.ownsRow W.heap.size 116 3 vl l.length (enVals l)) (hn : l.length ≤ 1000000) (he : ∀ e ∈ l, e.term < top64 ∧ mayEn e = true) :
    JnAt (W6.setCell ⟨j, 7, none⟩ vl) j p (ownL vl ++ G) d ⟨S.hard, ⟨S.log.base, S.log.bterm, S.log.conf, l⟩, S.image⟩ := by
  obtain ⟨F, z, vc, vo, h1, h2, h3, h4, h5, h6, h6', h7, h8, h9, h10, h11, h12⟩ := h
  have t : Turn [j] W (W6.setCell ⟨j, 7, none⟩ vl) := (Turn.below hb).trans (Turn.set W6 j 7 vl (by simp)) (fun b h => .inl h)
  have hj6 := (hb.block j (h12 j h7)).trans h1
  have hk : (W6.setCell ⟨j, 7, none⟩ vl).heap[j]? = some (.cells (jnCells p ⟨S.hard, ⟨S.log.base, S.log.bterm, S.log.conf, l⟩, S.image⟩ z vc vl) 107) := heap_set hj6 7 vl
  have nc : some j ≠ vc.ownBlock := own_ne h3 h1 (fun cur e => by cases e)
  have nl : some j ≠ vl.ownBlock := own_ne hr hj6 (fun cur e => by cases e)
  have hr7 := ownsRow_mono (ownsRow_of_block (W' := W6.setCell ⟨j, 7, none⟩ vl) hr (fun r hrr => Below.heap_setCell _ _ _ _ (fun e => nl (by rw [hrr, e])))) (Nat.zero_le _)
  refine ⟨F, z, vc, vl, hk, h2.turn t (by simpa using h8), ownsRow_of_block h3 (fun r hr => t.block (h3.lt r hr).2 (by simp; intro e; exact nc (by rw [hr, e]))), hr7, ⟨h5.1, h5.2.1, h5.2.2.1, h5.2.2.2.1, h5.2.2.2.2.1, h5.2.2.2.2.2.1, he, h5.2.2.2.2.2.2.2⟩, h6, hn, by simp [h7], h8, fun b hb => by simp [h9 b hb], fun r hr => ⟨by simp [(h10 r hr).1], (h10 r hr).2⟩, ?_, ?_⟩
  · intro r hrr
    refine ⟨by simp [mem_ownL.2 hrr], fun hm => ?_⟩
    have := (hr.lt r hrr).1
    have := h12 r (h9 r hm)
    omega
  · intro b hb'
    rcases List.mem_append.1 hb' with hb' | hb'
    · exact (hr7.lt b (mem_ownL.1 hb')).2
    · exact Nat.lt_of_lt_of_le (h12 b hb') t.size
theorem add_addr (b o j : Nat) : (⟨b, o, none⟩ : Addr).add j = ⟨b, o + j, none⟩ := by unfold Addr.add; split <;> simp_all
/-- a call of a Go function of one argument, whose value is known in part, as one step of a region that draws its order -/
theorem step_callE {P : Program} {ops : Array Oper} {o : Oper} {a : Act} {w : World} {K : Act → World → Prop} {Q : Exit → Act → World → Prop} {E : Prop}
    (hg : o.guard = none) (f : FuncId) (fn : Func) (hfn : P.funcs[f]? = some fn) (hname : fn.name ≠ "runtime.NumGoroutine") (hbody : fn.body ≠ none) (x : Operand) (ts : Array TypeId) (hop : o.op = Op.call { callee := Callee.value (Operand.func f), args := #[x], argTypes := ts }) (u : Value) (hx : a.eval x = u) (R : Value → World → Prop)
    (h : Calls P f #[u] w (fun e w' => ∃ v, e = .returned v ∧ R v w')) (hK : ∀ v w', R v w' → K (a.put o.dst v) w') :
    if Region.wanted o (yielded ops a.tmps) = true then Oper.wp P o a w K Q else E := by
  have hw : Region.wanted o (yielded ops a.tmps) = true := by simp [Region.wanted, hg]
  rw [if_pos hw]
  unfold Oper.wp
  have hf : a.eval (.func f) = .func (.func f) #[] #[] := rfl
  simp [execOp, hop, resolve, invoke, hx, hf, Result.andThen, Deferred.ofValue, callFunc, Oper.upon, hfn, hname, hbody]
  refine Calls.mono h fun e w' he => ?_
  obtain ⟨v, rfl, hr⟩ := he
  exact hK v w' hr
set_option maxRecDepth 100000 in
set_option maxHeartbeats 8000000 in
theorem append_any {W : World} {j p : Nat} {G : List Nat} {d : Ds} {S : Js} (h : JnAt W j p G d S) {n : Nat} (hok : d.Ok n) (hn : n ≤ 900000) (fr : Nat) (l : List En) (v : Value) (hfr : fr < top64) (hv : Cells G W v l.length (enVals l)) (hl : l.length ≤ 1000) (hsl : S.log.l.length ≤ 900000) (he : ∀ e ∈ l, e.term < top64 ∧ e.data.length ≤ 1048576) :
    Calls Tryz.prog 24 #[.pointer (some ⟨j, 0, none⟩), .int .u64 fr, v] W fun e W' => e = .returned (.int .i64 ((jAppend d S fr l).2.2 : Nat)) ∧ JnAfter W j p G (jAppend d S fr l).1 (jAppend d S fr l).2.1 W' := by
  have HJ := hid (show jAppend d S fr l = if fr ≤ S.log.base ∨ S.log.base + S.log.l.length + 1 < fr ∨ anyBad l = true then (d, S, 1) else
    if l = [] then (d, S, if fr = S.log.base + S.log.l.length + 1 then 0 else 1) else
    if (Ds.sync' (d.add (entRecs fr l).flatten)).2 ≠ 0 then ((Ds.sync' (d.add (entRecs fr l).flatten)).1, S, (Ds.sync' (d.add (entRecs fr l).flatten)).2) else
    ((Ds.sync' (d.add (entRecs fr l).flatten)).1, ⟨S.hard, ⟨S.log.base, S.log.bterm, S.log.conf, S.log.l.take (fr - S.log.base - 1) ++ l⟩, S.image⟩, 0) from rfl)
  have hbs := h.ok.1.2.2.2.1
  have hsn := h.ok.2
  have HC := hid (fun (W1 : World) (hb : Below W.heap.size W W1) => containsA_any ((hv.sub (by simp) : Cells [] W v l.length (enVals l)).below hb) (by omega) (fun e he' => by have := (he e he').2; unfold maxLen; omega))
  obtain ⟨z, vc, vl, h1, hr1, hr2⟩ := h.cells
  obtain ⟨ac, cc, rfl⟩ := own_form hr1
  obtain ⟨al, cl, rfl⟩ := own_form hr2
  obtain ⟨av, cv, rfl⟩ := hv.form
  have c4 := cell_in h1 4 (.int .u64 S.log.base) rfl
  have c5 := cell_in h1 5 (.int .u64 S.log.bterm) rfl
  have c6 := cell_in h1 6 (.slice ac S.log.conf.length cc) rfl
  have c7 := cell_in h1 7 (.slice al S.log.l.length cl) rfl
  have HV := hid hv
  have H := hid h
  have H1 := hid h1
  have HLA := hid (last_any S.log.base S.log.bterm (.slice ac S.log.conf.length cc) al S.log.l.length cl W (by omega) (by omega))
  have HE := hid he
  clear h h1 hr1 hr2 hv he
  unfold top64 at hfr
  have hw1 : IntKind.u64.wrap (((S.log.base + S.log.l.length : Nat) : Int) + 1) = ((S.log.base + S.log.l.length + 1 : Nat) : Int) := by rw [IntKind.wrap_u64]; omega
  by_cases hA : fr ≤ S.log.base
  · as_aux_lemma =>
    have HJ1 := hid (HJ.out.trans (if_pos (.inl hA)))
    have hA1 : (fr : Int) ≤ (S.log.base : Int) := by omega
    go_enter Tryz.func24, Tryz.ntmps24
    go_wp2_with fail
    go_ret
    rw [HJ1.out]
    exact ⟨rfl, JnAfter.same H.out (Below.refl _ _)⟩
  · have hA1 : ¬ ((fr : Int) ≤ (S.log.base : Int)) := by omega
    by_cases hB : S.log.base + S.log.l.length + 1 < fr
    · as_aux_lemma =>
      have HJ1 := hid (HJ.out.trans (if_pos (.inr (.inl hB))))
      have hB1 : ((S.log.base + S.log.l.length + 1 : Nat) : Int) < (fr : Int) := by omega
      go_enter Tryz.func24, Tryz.ntmps24
      go_wp2_with fail
      refine Calls.mono HLA.out ?_
      rintro e w1 ⟨rfl, hb1⟩
      have HB1 := hid hb1
      clear hb1
      generalize S.log.base + S.log.l.length = lst at *
      go_wp2_with fail
      go_ret
      rw [HJ1.out]
      exact ⟨rfl, JnAfter.same H.out HB1.out⟩
    · have hB1 : ¬ (((S.log.base + S.log.l.length + 1 : Nat) : Int) < (fr : Int)) := by omega
      have HJ1 := hid (show jAppend d S fr l = if anyBad l = true then (d, S, 1) else
        if l = [] then (d, S, if fr = S.log.base + S.log.l.length + 1 then 0 else 1) else
        if (Ds.sync' (d.add (entRecs fr l).flatten)).2 ≠ 0 then ((Ds.sync' (d.add (entRecs fr l).flatten)).1, S, (Ds.sync' (d.add (entRecs fr l).flatten)).2) else
        ((Ds.sync' (d.add (entRecs fr l).flatten)).1, ⟨S.hard, ⟨S.log.base, S.log.bterm, S.log.conf, S.log.l.take (fr - S.log.base - 1) ++ l⟩, S.image⟩, 0) by
          rw [HJ.out]
          by_cases hb : anyBad l = true
          · rw [if_pos (.inr (.inr hb)), if_pos hb]
          · rw [if_neg (by simp only [not_or]; exact ⟨hA, hB, hb⟩), if_neg hb])
      clear HJ
      go_enter Tryz.func24, Tryz.ntmps24
      go_wp2_with fail
      refine Calls.mono HLA.out ?_
      rintro e w1 ⟨rfl, hb1⟩
      have HB1 := hid hb1
      have H2 := hid (blk_below H1.out hb1)
      have c4' := cell_in H2.out 4 (.int .u64 S.log.base) rfl
      have c5' := cell_in H2.out 5 (.int .u64 S.log.bterm) rfl
      have c6' := cell_in H2.out 6 (.slice ac S.log.conf.length cc) rfl
      have c7' := cell_in H2.out 7 (.slice al S.log.l.length cl) rfl
      clear hb1 c4 c5 c6 c7
      generalize hlst : S.log.base + S.log.l.length = lst at *
      go_wp2_with fail
      refine Calls.mono (HC.out w1 HB1.out) ?_
      rintro e w2 ⟨rfl, hb2⟩
      have HB2 := hid (HB1.out.trans (hb2.mono HB1.out.size))
      have H3 := hid (blk_below H2.out hb2)
      clear hb2 c4' c5' c6' c7' HLA HC
      cases hbad : anyBad l
      · have HJ2 := hid (HJ1.out.trans (if_neg (by rw [hbad]; simp)))
        have HG := hid (anyBad_false hbad)
        clear HJ1 hbad H1 H2
        by_cases hl0 : l = []
        · subst hl0
          have HJ3 := hid (HJ2.out.trans (if_pos rfl))
          have c4 := cell_in H3.out 4 (.int .u64 S.log.base) rfl
          have c5 := cell_in H3.out 5 (.int .u64 S.log.bterm) rfl
          have c6 := cell_in H3.out 6 (.slice ac S.log.conf.length cc) rfl
          have c7 := cell_in H3.out 7 (.slice al S.log.l.length cl) rfl
          have HLB := hid (last_any S.log.base S.log.bterm (.slice ac S.log.conf.length cc) al S.log.l.length cl w2 (by omega) (by omega))
          rw [hlst] at HLB
          clear HJ2
          by_cases hlast : fr = lst + 1
          · as_aux_lemma =>
            have HJ4 := hid (HJ3.out.trans (by rw [if_pos hlast]))
            have hf1 : (fr : Int) = (lst : Int) + 1 := by omega
            have hw3 : IntKind.u64.wrap ((lst : Int) + 1) = (lst : Int) + 1 := by rw [IntKind.wrap_u64]; omega
            clear hw1
            go_wp2_with fail
            refine Calls.mono HLB.out ?_
            rintro e w3 ⟨rfl, hb3⟩
            have HB3 := hid (HB2.out.trans (hb3.mono HB2.out.size))
            clear hb3
            go_wp2_with fail
            go_ret
            rw [HJ4.out]
            exact ⟨rfl, JnAfter.same H.out HB3.out⟩
          · as_aux_lemma =>
            have HJ4 := hid (HJ3.out.trans (by rw [if_neg hlast]))
            have hf1 : ¬ ((fr : Int) = (lst : Int) + 1) := by omega
            have hw3 : IntKind.u64.wrap ((lst : Int) + 1) = (lst : Int) + 1 := by rw [IntKind.wrap_u64]; omega
            clear hw1
            go_wp2_with fail
            refine Calls.mono HLB.out ?_
            rintro e w3 ⟨rfl, hb3⟩
            have HB3 := hid (HB2.out.trans (hb3.mono HB2.out.size))
            clear hb3
            go_wp2_with fail
            go_ret
            rw [HJ4.out]
            exact ⟨rfl, JnAfter.same H.out HB3.out⟩
        · have HJ3 := hid (HJ2.out.trans (if_neg hl0))
          have hl1 : 0 < l.length := List.length_pos_iff.2 hl0
          have hl2 : ¬ ((l.length : Int) = 0) := by omega
          clear HJ2
          go_wp2_with fail
          generalize decide ((lst : Int) + 1 < (fr : Int)) = bq at *
          generalize ((l.length : Int) == 0) = bl at *
          have hbl : bl = false := by assumption
          subst hbl
          obtain ⟨_, hcap, hcell⟩ := HV.out.at
          have HX := hid hcell
          have hent := entRecs_le l fr (fun e he => mayEn_data (HG.out e he))
          have HEN := hid hent
          clear hcell hent
          go_loopw [7, 52] (fun sv i wr => ∃ q : Nat, i = .int .i64 q ∧ sv = .string (str (entRecs fr (l.take q)).flatten) ∧ q ≤ l.length ∧ Below W.heap.size W wr) (fun _ i _ => l.length - (intOf i).toNat)
          case atStart => exact ⟨0, rfl, rfl, Nat.zero_le _, HB2.out⟩
          case round =>
            obtain ⟨q, rfl, rfl, hq, hb⟩ := hrel
            have HB := hid hb
            have hfl : (entRecs fr (l.take q)).flatten.length ≤ 70000 * 1000 := by
              have h1 := flatten_le 70000 (entRecs fr (l.take q)) (entRecs_le (l.take q) fr (fun e he => mayEn_data (HG.out e (List.mem_of_mem_take he))))
              have h2 : (entRecs fr (l.take q)).length = (l.take q).length := entRecs_length _ _
              rw [h2, List.length_take] at h1
              have : 70000 * min q l.length ≤ 70000 * 1000 := Nat.mul_le_mul_left _ (by omega)
              omega
            by_cases hlt : q < l.length
            · as_aux_lemma =>
              obtain ⟨b, off, rfl, hcell⟩ := HX.out (by rw [enVals_len]; omega)
              have hev := enVals_cell l q hlt
              have c0 := hcell wr hb _ _ hev.1
              have c1 := hcell wr hb _ _ hev.2.1
              have c2 := hcell wr hb _ _ hev.2.2
              have HS : Hid ((entRecs fr (l.take (q + 1))).flatten = (entRecs fr (l.take q)).flatten ++ entRec (fr + q) l[q]) := hid (by
                have ht : l.take (q + 1) = l.take q ++ [l[q]] := by rw [List.take_add_one, List.getElem?_eq_getElem hlt]; rfl
                rw [ht, entRecs_snoc, List.flatten_append, List.length_take, Nat.min_eq_left (by omega)]
                simp)
              have HEQ := hid (ent_any (fr + q) l[q] (by unfold top64; omega) (HE.out _ (List.getElem_mem hlt)).1 (HG.out _ (List.getElem_mem hlt)))
              have hrl := entRec_len (fr + q) l[q] (mayEn_data (HG.out _ (List.getElem_mem hlt)))
              generalize entRec (fr + q) l[q] = rc at *
              generalize l[q] = x at *
              generalize (entRecs fr (l.take q)).flatten = A at *
              have hmul : off + q * 3 = off + 3 * q := by omega
              have hm1 : off + 3 * q + 1 = off + (3 * q + 1) := by omega
              have hm2 : off + 3 * q + 2 = off + (3 * q + 2) := by omega
              have hwq : IntKind.u64.wrap (q : Int) = (q : Int) := by rw [IntKind.wrap_u64]; omega
              have hwf : IntKind.u64.wrap ((fr : Int) + (q : Int)) = ((fr + q : Nat) : Int) := by rw [IntKind.wrap_u64]; omega
              have hza : (str A).size = A.length := str_size _
              have hzr : (str rc).size = rc.length := str_size _
              have hsum : ¬ (9223372036854775807 < A.length + rc.length) := by omega
              have hap : str A ++ str rc = str (A ++ rc) := str_append _ _
              clear hcell hev hb
              go_wp2_with fail
              refine Calls.mono (HEQ.out _) ?_
              rintro e w4 ⟨rfl, hb4⟩
              have HB4 : Hid (Below W.heap.size W w4) := hid (HB.out.trans (((Below.refl _ _).alloc (Nat.le_refl _) (.cells #[.int .u64 x.term, .int .i64 x.kind, .string (str x.data)] 116)).trans (hb4.mono (by simp)) |>.mono HB.out.size))
              clear hb4 c0 c1 c2
              go_wp2_with fail
              go_roundw
              case rel =>
                exact ⟨q + 1, by go_num, by rw [HS.out], by omega, HB4.out⟩
              case measure => simp [intOf]; omega
            · obtain rfl : q = l.length := by omega
              rw [List.take_length] at hfl ⊢
              have H3 := hid (H.out.below hb)
              obtain ⟨F, g2, g9, g8, g7, gA⟩ := H3.out.opened
              obtain ⟨z3, vc3, vl3, g1, gr1, gr2⟩ := H3.out.cells
              have HG1 := hid g1
              have HD1 := hid g2
              have HFG := hid g9
              have HJF := hid g8
              have HGA := hid gA
              have HGR := hid gr2
              have HP := hid (hok.add (entRecs fr l).flatten)
              clear g1 g2 g7 g8 g9 gA gr1 gr2 hb hlt
              generalize hRR : (entRecs fr l).flatten = R at *
              have hE1 : wr.drew.heap[j]? = some (.cells (jnCells p S z3 vc3 vl3) 107) := HG1.out
              have HCO : Hid (∀ W' : World, W'.heap[j]? = some (.cells (jnCells p S z3 vc3 vl3) 107) → W'.cell? ⟨j, 0, none⟩ = some (.pointer (some ⟨p, 0, none⟩))) := fun W' h => cell_in h 0 _ rfl
              go_wp2_with fail
              go_region_held3 (fun W' => W'.cell? ⟨j, 0, none⟩ = some (.pointer (some ⟨p, 0, none⟩))) (exact HCO.out _ (by assumption))
                (first
                | (go_at_call 47; refine Calls.mono (add_any (by exact HD1.out.below ((Below.refl _ _).drew)) hok.1 (by have := hok.2; omega) _ (by omega)) ?_; rintro e w3 ⟨rfl, ha3⟩; obtain ⟨F3, hd3, hf3, ht3⟩ := ha3; have hT3 : Turn F wr w3 := ⟨ht3.1, ht3.2.1, ht3.2.2.1, ht3.2.2.2.1, ht3.2.2.2.2⟩; have hE3 := (hT3.block (Array.getElem?_eq_some_iff.1 HG1.out).1 HJF.out).trans HG1.out; have HD3 := hid hd3; have HF3 : Hid (∀ b ∈ F3, b ∈ F ∨ wr.heap.size ≤ b) := hid hf3; have HT3 := hid hT3; clear hd3 hf3 ht3 hT3)
                | (go_at_call 44; refine Calls.mono (jsync_any HD3.out HP.out.1.1 HP.out.2) ?_; rintro e w4 ⟨rfl, ha4⟩; have HA4 := hid (After.trans HT3.out HF3.out ha4); have hE4 : w4.heap[j]? = some (.cells (jnCells p S z3 vc3 vl3) 107) := (by obtain ⟨_, _, _, t⟩ := HA4.out; exact (t.block (Array.getElem?_eq_some_iff.1 HG1.out).1 HJF.out).trans HG1.out); clear ha4))
              have HA1 := hid (HGA.out _ _ HA4.out)
              clear hE1 hE3 hE4 HD3 HF3 HT3 HA4 HGA
              generalize hqq : Ds.sync' (d.add R) = q3 at *
              obtain ⟨d3, e4⟩ := q3
              simp only at HA1 HJ3 ⊢
              by_cases he4 : e4 = 0
              · subst he4
                have HJ4 := hid (HJ3.out.trans (if_neg (by simp)))
                obtain ⟨G4, k1, k2, k3⟩ := HA1.out
                have HK1 := hid k1
                have HK2 := hid k2
                have HK3 := hid k3
                have HV4 := hid ((((HV.out.below HB.out).kept (fun j hj hD => k3.block hj hD)) : Cells G w4 _ _ _).sub (E := []) (by simp))
                obtain ⟨z4, vc4, vl4, m1, mr1, mr2⟩ := k1.cells
                obtain ⟨al4, cl4, rfl⟩ := own_form mr2
                have HM1 := hid m1
                have HMR := hid mr2
                have hkk : fr - S.log.base - 1 ≤ S.log.l.length := by omega
                have hcl4 : S.log.l.length ≤ cl4 := by
                  rcases mr2.2 with ⟨e1, e2⟩ | ⟨g', cap', cur, e1, _, _, e2, _⟩
                  · simp only [Value.slice.injEq] at e1; omega
                  · simp only [Value.slice.injEq] at e1; omega
                have hwa : IntKind.u64.wrap ((fr : Int) - (S.log.base : Int)) = ((fr - S.log.base : Nat) : Int) := by rw [IntKind.wrap_u64]; omega
                have hwb : IntKind.u64.wrap (((fr - S.log.base : Nat) : Int) - 1) = ((fr - S.log.base - 1 : Nat) : Int) := by rw [IntKind.wrap_u64]; omega
                have HCL := hid (clone_entry (W := w4.drew) (v := .slice al4 (fr - S.log.base - 1) cl4) (l := S.log.l.take (fr - S.log.base - 1)) (by
                  have := Cells.of_row (D := []) (ownsRow_take (w := w4.drew) mr2 hkk) (by simp)
                  rw [enVals_take] at this
                  rw [List.length_take, Nat.min_eq_left hkk]
                  exact this) (by rw [List.length_take]; omega))
                rw [List.length_take, Nat.min_eq_left hkk] at HCL
                generalize hk : fr - S.log.base - 1 = kk at *
                generalize hk2 : fr - S.log.base = kb at *
                have hkc : (kk : Int) ≤ (cl4 : Int) := by omega
                have hkc0 : (0 : Int) ≤ (kk : Int) := by omega
                have c4 : w4.drew.cell? ⟨j, 4, none⟩ = some (.int .u64 S.log.base) := cell_in (w := w4.drew) HM1.out 4 _ rfl
                have c7 : w4.drew.cell? ⟨j, 7, none⟩ = some (.slice al4 S.log.l.length cl4) := cell_in (w := w4.drew) HM1.out 7 _ rfl
                obtain ⟨ba, oa, rfl, hcella⟩ := HV4.out.at.2.2 (by rw [enVals_len]; omega)
                have HCA := hid hcella
                obtain ⟨i0, hi0, hz0, hz1, hz2⟩ := info_parts infoEntry
                clear k1 k2 k3 m1 mr1 mr2 hcella HJ3 hqq
                go_wp2_with fail
                go_region_law (first
                  | (refine step_callE rfl 68 Tryz.f68 Tryz.func68 (by decide) (by intro h; cases h) (.tmp 96) _ rfl (.slice al4 kk cl4) (by simp [Act.eval, Act.put]) (fun v' w' => w'.ownsRow w4.drew.heap.size 116 3 v' kk (enVals (S.log.l.take kk)) ∧ Below w4.drew.heap.size w4.drew w') HCL.out ?_; intro vn w5 hR5; obtain ⟨hr5, hb5⟩ := hR5; obtain ⟨a5, k5, rfl⟩ := own_form hr5; have hb5' : Below w4.heap.size w4 w5 := ⟨hb5.os, hb5.tape, hb5.output, hb5.size, hb5.block⟩; have HM5 := hid (blk_below HM1.out hb5'); have c4' := cell_in HM5.out 4 _ rfl; have c7' := cell_in HM5.out 7 _ rfl)
                  | (refine step_append_own rfl (.tmp 97) (.tmp 98) 47 rfl w4.heap.size 116 i0 (.agg #[.int .u64 0, .int .i64 0, .string { data := #[] }]) 3 32 Tryz.underlying47 hi0 hz0 hz1 hz2 rfl (by decide) (.slice a5 kk k5) kk (enVals (S.log.l.take kk)) (by simp [Act.eval, Act.put]) (by exact hr5) ⟨ba, oa, none⟩ l.length cv (enVals l) (by simp [Act.eval, Act.put]) (by rw [enVals_len]; omega) (by exact fun j u hu => by rw [add_addr]; exact HCA.out w5 hb5' j u hu) (enVals_one l) (by unfold maxLen; omega) (by omega) (by exact hb5.size) ?_; intro v' w6 hown' hgrow hloc; obtain ⟨a6, k6, rfl⟩ := own_form hown'; have HM6 := hid ((hgrow.block j (Array.getElem?_eq_some_iff.1 HM5.out).1 (own_ne hr5 HM5.out (fun cur e => by cases e))).trans HM5.out); have c4'' := cell_in HM6.out 4 _ rfl; have c7'' := cell_in HM6.out 7 _ rfl; have f7'' := free_in HM6.out 7))
                all_goals
                  have hb6 : Below w4.heap.size w4 w6 := hb5'.grown ⟨hgrow.os, hgrow.tape, hgrow.output, hgrow.size, hgrow.block⟩ hb5'.size (fun r hr => (hr5.lt r hr).1)
                  have HB6 := hid hb6
                  have HOW := hid hown'
                  clear hown' hgrow hloc hr5 hb5 hb5' hb6 c4 c7 c4' c7' c4'' c7'' f7''
                  go_wp2_with fail
                  go_ret
                  rw [HJ4.out]
                  have hvl : (S.log.l.take kk ++ l).length = kk + l.length := by rw [List.length_append, List.length_take, Nat.min_eq_left hkk]
                  have hr6 : w6.ownsRow w4.heap.size 116 3 (.slice a6 (kk + l.length) k6) (S.log.l.take kk ++ l).length (enVals (S.log.l.take kk ++ l)) := by
                    rw [hvl, show enVals (S.log.l.take kk ++ l) = enVals (S.log.l.take kk) ++ enVals l by simp [enVals]]
                    exact HOW.out
                  have hJ := HK1.out.relog HB6.out hr6 (by rw [hvl]; omega) (fun e he => by
                    rcases List.mem_append.1 he with he | he
                    · exact H.out.ok.1.2.2.2.2.2.2.1 e (List.mem_of_mem_take he)
                    · exact ⟨(HE.out e he).1, HG.out e he⟩)
                  refine ⟨rfl, JnAfter.trans (Turn.below HB.out) (fun b h => .inl h) ⟨_, hJ, fun b hb => ?_, ?_⟩⟩
                  · rcases List.mem_append.1 hb with hb | hb
                    · have h1 := (HOW.out.lt b (mem_ownL.1 hb)).1
                      have h2 := HK3.out.size
                      exact .inr (by omega)
                    · exact HK2.out b hb
                  · exact (HK3.out.trans (Turn.below (F := []) HB6.out) (by simp)).trans (Turn.set w6 j 7 _ H.out.mem) (fun b h => .inl h)
              · have HJ4 := hid (HJ3.out.trans (if_pos he4))
                have h1 : ((e4 : Int) != 0) = true := by simp only [bne_iff_ne, ne_eq]; omega
                have h2 : ¬ ((e4 : Int) = 0) := by omega
                clear he4 HJ3 hqq
                go_wp2_with fail
                go_ret
                rw [HJ4.out]
                exact ⟨rfl, JnAfter.trans (Turn.below HB.out) (fun b h => .inl h) HA1.out⟩
      · have HJ2 := hid (HJ1.out.trans (if_pos hbad))
        clear HJ1 hbad
        go_wp2_with fail
        go_ret
        rw [HJ2.out]
        exact ⟨rfl, JnAfter.same H.out HB2.out⟩
end Go.Proofs.YtmehcogaopackaaGreat
