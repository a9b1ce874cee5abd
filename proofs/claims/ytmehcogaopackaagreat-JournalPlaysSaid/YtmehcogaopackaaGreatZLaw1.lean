/-
  The law's functions file and act: a journal of the program beside one of the reference's, both in one state.
-/
import Derived.Test.YtmehcogaopackaaGreatGP
import Derived.Test.YtmehcogaopackaaGreatZRebase
import Derived.Test.YtmehcogaopackaaGreatJGreat
import Derived.Test.YtmehcogaopackaaGreatGQ
namespace Go.Proofs.YtmehcogaopackaaGreat
open Go.RowKit
set_option linter.unusedVariables false
set_option linter.unusedSimpArgs false
set_option maxRecDepth 100000 in
set_option maxHeartbeats 2000000 in
theorem file_any {W : World} {p q : Nat} {F G : List Nat} {d : Ds} (h1 : DkAt W p F d) (h2 : RdAt G W q d) (hf : d.Fine) (hc : d.cap ≤ 1048576) (hp : d.pend.length ≤ 1000000) :
    Calls Tryz.prog 14 #[.pointer (some ⟨p, 0, none⟩), .pointer (some ⟨q, 0, none⟩)] W fun e W' => e = .returned (.bool true) ∧ Below W.heap.size W W' := by
  have HR1 := hid (read_any h1)
  have HR2 := hid (rread_any h2)
  have HP1 := hid (pending_any h1 hf hc hp)
  have HP2 := hid (fun (w : World) (hb : Below W.heap.size W w) => rcount_any (h2.below hb) hf hc hp)
  have HO1 := hid (fun (w : World) (hb : Below W.heap.size W w) => off_any (h1.below hb))
  have HO2 := hid (fun (w : World) (hb : Below W.heap.size W w) => roff_any (h2.below hb))
  generalize d.read.1 = s at *
  generalize d.read.2 = c at *
  generalize d.count = n at *
  generalize d.off = o at *
  clear h1 h2
  go_enter Tryz.func14, Tryz.ntmps14
  go_wp2_with fail
  refine Calls.mono HR1.out ?_
  rintro e w1 ⟨rfl, rfl⟩
  go_wp2_with fail
  refine Calls.mono HR2.out ?_
  rintro e w1 ⟨rfl, rfl⟩
  go_wp2_with fail
  refine Calls.mono HP1.out ?_
  rintro e w1 ⟨rfl, hb1⟩
  have HB1 := hid hb1
  clear hb1
  go_wp2_with fail
  refine Calls.mono (HP2.out _ HB1.out) ?_
  rintro e w2 ⟨rfl, hb2⟩
  have HB2 := hid (HB1.out.trans (hb2.mono HB1.out.size))
  clear hb2
  go_wp2_with fail
  refine Calls.mono (HO1.out _ HB2.out) ?_
  rintro e w3 ⟨rfl, rfl⟩
  go_wp2_with fail
  refine Calls.mono (HO2.out _ HB2.out) ?_
  rintro e w3 ⟨rfl, rfl⟩
  go_wp2_with fail
  go_ret
  exact ⟨by simp, HB2.out⟩
/-- what a call of a script makes of a journal -/
def jAct (d : Ds) (S : Js) (a : Ac) : Ds × Js :=
  if a.kind = 1 then ((jSave d S a.hard).1, (jSave d S a.hard).2.1) else
  if a.kind = 2 then ((jAppend d S a.fr a.log.l).1, (jAppend d S a.fr a.log.l).2.1) else
  if a.kind = 3 then ((jRebase d S a.log a.image).1, (jRebase d S a.log a.image).2.1) else (d, S)
/-- both journals in one state, beside each other -/
def Both (W : World) (j p k q : Nat) (G : List Nat) (d : Ds) (S : Js) : Prop := JnAt W j p G d S ∧ RjAt G W k q d S
theorem Both.below {W W' : World} {j p k q : Nat} {G : List Nat} {d : Ds} {S : Js} (h : Both W j p k q G d S) (hb : Below W.heap.size W W') : Both W' j p k q G d S := ⟨h.1.below hb, h.2.below hb⟩
/-- behind a call of the one -/
theorem Both.one {W W' : World} {j p k q : Nat} {G : List Nat} {d d' : Ds} {S S' : Js} (h : Both W j p k q G d S) (ha : JnAfter W j p G d' S' W') :
    ∃ G', JnAt W' j p G' d' S' ∧ RjAt G' W' k q d S ∧ (∀ b ∈ G', b ∈ G ∨ W.heap.size ≤ b) ∧ Turn G W W' := by
  obtain ⟨G', h1, h2, h3⟩ := ha
  exact ⟨G', h1, h.2.besides h3 h2, h2, h3⟩
/-- behind the call of the other -/
theorem Both.two {W W' : World} {j p k q : Nat} {G : List Nat} {d d' : Ds} {S S' : Js} (h1 : JnAt W j p G d' S') (h2 : RjAt G W k q d S) (h3 : RjAt G W' k q d' S') (t : Turn [k, q] W W') : Both W' j p k q G d' S' := by
  have hq : k ∉ G ∧ q ∉ G := by
    obtain ⟨vc, vl, _, ⟨_, _, _, _, _, _, _, h⟩, _, _, _, _, h7, _⟩ := h2
    exact ⟨h7, fun hm => h (List.mem_cons_of_mem _ hm)⟩
  refine ⟨h1.turn t (fun b hb => ?_), h3⟩
  simp only [List.mem_cons, List.not_mem_nil, or_false] at hb
  rcases hb with rfl | rfl
  · exact hq.1
  · exact hq.2
/-- behind a call of both -/
def BothAfter (W : World) (j p k q : Nat) (G : List Nat) (d' : Ds) (S' : Js) (W' : World) : Prop := ∃ G', Both W' j p k q G' d' S' ∧ (∀ b ∈ G', b ∈ G ∨ W.heap.size ≤ b) ∧ Turn (k :: q :: G) W W'
theorem BothAfter.mk {W W1 W2 : World} {j p k q : Nat} {G G1 : List Nat} {d d' : Ds} {S S' : Js} (h1 : JnAt W1 j p G1 d' S') (h2 : RjAt G1 W1 k q d S) (g : ∀ b ∈ G1, b ∈ G ∨ W.heap.size ≤ b) (t1 : Turn G W W1) (h3 : RjAt G1 W2 k q d' S') (t2 : Turn [k, q] W1 W2) : BothAfter W j p k q G d' S' W2 :=
  ⟨G1, Both.two h1 h2 h3 t2, g, (t1.mono (fun b hb => by simp [hb])).trans t2 (fun b hb => .inl (by simp at hb ⊢; rcases hb with h | h <;> simp [h]))⟩
theorem Cells.toG {W W' : World} {v : Value} {n : Nat} {xs : List Value} {G : List Nat} (h : Cells [] W v n xs) (hb : Below W.heap.size W W') (hG : ∀ b ∈ G, W.heap.size ≤ b) : Cells G W' v n xs :=
  h.besides (Turn.below hb) (fun b hb => .inr (hG b hb))
/-- a call's box -/
def AaAt (g : Nat) (a : Ac) (vc vl : Value) (W : World) : Prop := W.heap[g]? = some (.cells (a.vals vc vl).toArray 59)
set_option maxRecDepth 100000 in
set_option maxHeartbeats 4000000 in
theorem act_any {W : World} {j p k q : Nat} {G : List Nat} {d : Ds} {S : Js} (h : Both W j p k q G d S) {n : Nat} (hok : d.Ok n) (hn : n ≤ 900000) (a : Ac) (vc vl : Value) (hvc : Cells (k :: q :: G) W vc a.log.conf.length (intVals a.log.conf)) (hvl : Cells (k :: q :: G) W vl a.log.l.length (enVals a.log.l)) (hf : AcFit a) (hsl : S.log.l.length ≤ 900000) :
    Calls Tryz.prog 18 #[.pointer (some ⟨j, 0, none⟩), .pointer (some ⟨k, 0, none⟩), .agg (a.vals vc vl).toArray] W fun e W' => e = .returned (.bool true) ∧ BothAfter W j p k q G (jAct d S a).1 (jAct d S a).2 W' := by
  obtain ⟨ac, cc, rfl⟩ := hvc.form
  obtain ⟨al, cl, rfl⟩ := hvl.form
  have hb0 : Below W.heap.size W (W.alloc (.cells (a.vals (.slice ac a.log.conf.length cc) (.slice al a.log.l.length cl)).toArray 59)) := (Below.refl _ _).alloc (Nat.le_refl _) _
  have HK := hid (heap_alloc_new W (.cells (a.vals (.slice ac a.log.conf.length cc) (.slice al a.log.l.length cl)).toArray 59))
  have H := hid (h.below hb0)
  have HVC := hid (hvc.below hb0)
  have HVL := hid (hvl.below hb0)
  have HB := hid hb0
  have HF := hid hf
  have HOK := hid hok
  have hgg : W.heap.size ∉ G ∧ W.heap.size ≠ k ∧ W.heap.size ≠ q := ⟨fun hm => by have := h.1.lt _ hm; omega, by have := h.2.jlt; omega, by have := h.2.rd.lt; omega⟩
  have HFIN : Hid (∀ d' S' w, BothAfter (W.alloc (.cells (a.vals (.slice ac a.log.conf.length cc) (.slice al a.log.l.length cl)).toArray 59)) j p k q G d' S' w → BothAfter W j p k q G d' S' w) := hid (fun d' S' w h => by
    obtain ⟨G', h1, h2, h3⟩ := h
    refine ⟨G', h1, fun b hb => ?_, (Turn.below hb0).trans h3 (fun b hb => .inl hb)⟩
    rcases h2 b hb with h | h
    · exact .inl h
    · exact .inr (Nat.le_trans hb0.size h))
  have e0 : (W.alloc (.cells (a.vals (.slice ac a.log.conf.length cc) (.slice al a.log.l.length cl)).toArray 59)).cell? ⟨W.heap.size, 0, none⟩ = some (.int .i64 a.kind) := cell_in HK.out 0 _ rfl
  clear h hvc hvl hb0 hf hok
  go_enter Tryz.func18, Tryz.ntmps18
  go_upto_region 1 with fail
  generalize hw0 : W.alloc (.cells (a.vals (.slice ac a.log.conf.length cc) (.slice al a.log.l.length cl)).toArray 59) = W0 at *
  have hgz : W0.heap.size = W.heap.size + 1 := by rw [← hw0, World.size_alloc]
  generalize W.heap.size = g at *
  have HGG := hid hgg
  clear hgg hw0
  have HKD : Hid (AaAt g a (.slice ac a.log.conf.length cc) (.slice al a.log.l.length cl) W0.drew) := hid HK.out
  have HD : Hid (Both W0.drew j p k q G d S) := hid (H.out.below (Below.refl _ _).drew)
  have HPS : Hid (∀ w w' : World, AaAt g a (.slice ac a.log.conf.length cc) (.slice al a.log.l.length cl) w → Turn G w w' → AaAt g a (.slice ac a.log.conf.length cc) (.slice al a.log.l.length cl) w') := hid (fun w w' h t => (t.block (Array.getElem?_eq_some_iff.1 h).1 HGG.out.1).trans h)
  have HPT : Hid (∀ w w' : World, AaAt g a (.slice ac a.log.conf.length cc) (.slice al a.log.l.length cl) w → Turn [k, q] w w' → AaAt g a (.slice ac a.log.conf.length cc) (.slice al a.log.l.length cl) w') := hid (fun w w' h t => (t.block (Array.getElem?_eq_some_iff.1 h).1 (by simp only [List.mem_cons, List.not_mem_nil, or_false, not_or]; exact HGG.out.2)).trans h)
  by_cases hk1 : a.kind = 1
  · as_aux_lemma =>
    have HJ := hid (show jAct d S a = ((jSave d S a.hard).1, (jSave d S a.hard).2.1) from if_pos hk1)
    have HCO : Hid (∀ W' : World, AaAt g a (.slice ac a.log.conf.length cc) (.slice al a.log.l.length cl) W' → W'.cell? ⟨g, 3, none⟩ = some (.int .u64 a.hard.term) ∧ W'.cell? ⟨g, 4, none⟩ = some (.int .i64 a.hard.vote) ∧ W'.cell? ⟨g, 5, none⟩ = some (.int .u64 a.hard.life)) := hid (fun W' h => ⟨cell_in h 3 _ rfl, cell_in h 4 _ rfl, cell_in h 5 _ rfl⟩)
    rw [hk1] at e0
    have hE0 := HKD.out
    have HSV := hid (save_any HD.out.1 HOK.out hn a.hard.term a.hard.vote a.hard.life HF.out.2.1)
    go_wp2_with fail
    go_region_held3 (fun W' => W'.cell? ⟨g, 3, none⟩ = some (.int .u64 a.hard.term) ∧ W'.cell? ⟨g, 4, none⟩ = some (.int .i64 a.hard.vote) ∧ W'.cell? ⟨g, 5, none⟩ = some (.int .u64 a.hard.life)) (first | exact HCO.out _ (by assumption))
      (first
      | (go_at_call 26; refine Calls.mono HSV.out ?_; rintro e w2 ⟨rfl, ha2⟩; obtain ⟨G2, hj2, hr2, hg2, ht2⟩ := HD.out.one ha2; have hE2 := HPS.out _ _ hE0 ht2; have HJ2 := hid hj2; have HR2 := hid hr2; have HG2 := hid hg2; have HT2 := hid ht2; clear ha2 hj2 hr2 hg2 ht2)
      | (go_at_call 59; refine Calls.mono (rsave_any HR2.out HOK.out hn HJ2.out.lt a.hard.term a.hard.vote a.hard.life HF.out.2.1) ?_; rintro e w3 ⟨rfl, hr3, ht3⟩; have hE3 := HPT.out _ _ hE2 ht3; have HR3 := hid hr3; have HT3 := hid ht3; clear hr3 ht3))
    have HBA := hid (HFIN.out _ _ _ (BothAfter.mk HJ2.out HR2.out HG2.out HT2.out HR3.out HT3.out))
    clear hE0 hE2 hE3
    go_wp2_with fail
    go_ret
    rw [HJ.out]
    exact ⟨by simp, HBA.out⟩
  by_cases hk2 : a.kind = 2
  · as_aux_lemma =>
    have HJ := hid (show jAct d S a = ((jAppend d S a.fr a.log.l).1, (jAppend d S a.fr a.log.l).2.1) from (if_neg hk1).trans (if_pos hk2))
    have HCO : Hid (∀ W' : World, AaAt g a (.slice ac a.log.conf.length cc) (.slice al a.log.l.length cl) W' → W'.cell? ⟨g, 2, none⟩ = some (.int .u64 a.fr) ∧ W'.cell? ⟨g, 9, none⟩ = some (.slice al a.log.l.length cl)) := hid (fun W' h => ⟨cell_in h 2 _ rfl, cell_in h 9 _ rfl⟩)
    rw [hk2] at e0
    have hE0 := HKD.out
    have HVL0 : Hid (Cells (k :: q :: G) W0.drew (.slice al a.log.l.length cl) a.log.l.length (enVals a.log.l)) := hid HVL.out
    have HSV := hid (append_any HD.out.1 HOK.out hn a.fr a.log.l _ HF.out.1 (HVL0.out.sub (fun b hb => by simp [hb])) HF.out.2.2.2.2.2.2.2.1 hsl HF.out.2.2.2.2.2.1)
    have HVT : Hid (∀ w' : World, Turn G W0.drew w' → Cells [] w' (.slice al a.log.l.length cl) a.log.l.length (enVals a.log.l)) := hid (fun w' t => (HVL0.out.sub (E := G) (fun b hb => by simp [hb])).besides t (by simp))
    go_wp2_with fail
    go_region_held3 (fun W' => W'.cell? ⟨g, 2, none⟩ = some (.int .u64 a.fr) ∧ W'.cell? ⟨g, 9, none⟩ = some (.slice al a.log.l.length cl)) (first | exact HCO.out _ (by assumption))
      (first
      | (go_at_call 24; refine Calls.mono HSV.out ?_; rintro e w2 ⟨rfl, ha2⟩; obtain ⟨G2, hj2, hr2, hg2, ht2⟩ := HD.out.one ha2; have hE2 := HPS.out _ _ hE0 ht2; have HJ2 := hid hj2; have HR2 := hid hr2; have HG2 := hid hg2; have HT2 := hid ht2; clear ha2 hj2 hr2 hg2 ht2)
      | (go_at_call 60; refine Calls.mono (rjappend_any HR2.out HOK.out hn HJ2.out.lt a.fr a.log.l _ HF.out.1 (HVT.out _ HT2.out) HF.out.2.2.2.2.2.2.2.1 hsl HF.out.2.2.2.2.2.1) ?_; rintro e w3 ⟨rfl, hr3, ht3⟩; have hE3 := HPT.out _ _ hE2 ht3; have HR3 := hid hr3; have HT3 := hid ht3; clear hr3 ht3))
    have HBA := hid (HFIN.out _ _ _ (BothAfter.mk HJ2.out HR2.out HG2.out HT2.out HR3.out HT3.out))
    clear hE0 hE2 hE3
    go_wp2_with fail
    go_ret
    rw [HJ.out]
    exact ⟨by simp, HBA.out⟩
  by_cases hk3 : a.kind = 3
  · as_aux_lemma =>
    have HJ := hid (show jAct d S a = ((jRebase d S ⟨a.log.base, a.log.bterm, a.log.conf, a.log.l⟩ a.image).1, (jRebase d S ⟨a.log.base, a.log.bterm, a.log.conf, a.log.l⟩ a.image).2.1) from (if_neg hk1).trans ((if_neg hk2).trans (if_pos hk3)))
    have HCO : Hid (∀ W' : World, AaAt g a (.slice ac a.log.conf.length cc) (.slice al a.log.l.length cl) W' → W'.cell? ⟨g, 6, none⟩ = some (.int .u64 a.log.base) ∧ W'.cell? ⟨g, 7, none⟩ = some (.int .u64 a.log.bterm) ∧ W'.cell? ⟨g, 8, none⟩ = some (.slice ac a.log.conf.length cc) ∧ W'.cell? ⟨g, 9, none⟩ = some (.slice al a.log.l.length cl) ∧ W'.cell? ⟨g, 10, none⟩ = some (.string (str a.image))) := hid (fun W' h => ⟨cell_in h 6 _ rfl, cell_in h 7 _ rfl, cell_in h 8 _ rfl, cell_in h 9 _ rfl, cell_in h 10 _ rfl⟩)
    rw [hk3] at e0
    have hE0 := HKD.out
    have HVL0 : Hid (Cells (k :: q :: G) W0.drew (.slice al a.log.l.length cl) a.log.l.length (enVals a.log.l)) := hid HVL.out
    have HVC0 : Hid (Cells (k :: q :: G) W0.drew (.slice ac a.log.conf.length cc) a.log.conf.length (intVals a.log.conf)) := hid HVC.out
    have HSV := hid (rebase_any HD.out.1 HOK.out hn a.log.base a.log.bterm a.log.conf a.log.l a.image _ _ HF.out.2.2.2.1 HF.out.2.2.2.2.1 (HVC0.out.sub (by simp)) (HVL0.out.sub (by simp)) HF.out.2.2.2.2.2.2.1 HF.out.2.2.2.2.2.2.2.1 HF.out.2.2.2.2.2.1 HF.out.2.2.2.2.2.2.2.2)
    have HVT : Hid (∀ w' : World, Turn G W0.drew w' → Cells [] w' (.slice ac a.log.conf.length cc) a.log.conf.length (intVals a.log.conf) ∧ Cells [] w' (.slice al a.log.l.length cl) a.log.l.length (enVals a.log.l)) := hid (fun w' t => ⟨(HVC0.out.sub (E := G) (fun b hb => by simp [hb])).besides t (by simp), (HVL0.out.sub (E := G) (fun b hb => by simp [hb])).besides t (by simp)⟩)
    go_wp2_with fail
    go_region_held3 (fun W' => W'.cell? ⟨g, 6, none⟩ = some (.int .u64 a.log.base) ∧ W'.cell? ⟨g, 7, none⟩ = some (.int .u64 a.log.bterm) ∧ W'.cell? ⟨g, 8, none⟩ = some (.slice ac a.log.conf.length cc) ∧ W'.cell? ⟨g, 9, none⟩ = some (.slice al a.log.l.length cl) ∧ W'.cell? ⟨g, 10, none⟩ = some (.string (str a.image))) (first | exact HCO.out _ (by assumption))
      (first
      | (go_at_call 61; refine Calls.mono HSV.out ?_; rintro e w2 ⟨rfl, ha2⟩; obtain ⟨G2, hj2, hr2, hg2, ht2⟩ := HD.out.one ha2; have hE2 := HPS.out _ _ hE0 ht2; have HJ2 := hid hj2; have HR2 := hid hr2; have HG2 := hid hg2; have HT2 := hid ht2; clear ha2 hj2 hr2 hg2 ht2)
      | (go_at_call 62; refine Calls.mono (rrebase_any HR2.out HOK.out hn HJ2.out.lt a.log.base a.log.bterm a.log.conf a.log.l a.image _ _ HF.out.2.2.2.1 HF.out.2.2.2.2.1 (HVT.out _ HT2.out).1 (HVT.out _ HT2.out).2 HF.out.2.2.2.2.2.2.1 HF.out.2.2.2.2.2.2.2.1 HF.out.2.2.2.2.2.1 HF.out.2.2.2.2.2.2.2.2) ?_; rintro e w3 ⟨rfl, hr3, ht3⟩; have hE3 := HPT.out _ _ hE2 ht3; have HR3 := hid hr3; have HT3 := hid ht3; clear hr3 ht3))
    have HBA := hid (HFIN.out _ _ _ (BothAfter.mk HJ2.out HR2.out HG2.out HT2.out HR3.out HT3.out))
    clear hE0 hE2 hE3
    go_wp2_with fail
    go_ret
    rw [HJ.out]
    exact ⟨by simp, HBA.out⟩
  have HJ := hid (show jAct d S a = (d, S) from (if_neg hk1).trans ((if_neg hk2).trans (if_neg hk3)))
  have HBA := hid (HFIN.out _ _ _ ⟨G, H.out, fun b hb => .inl hb, Turn.refl _ _⟩)
  go_wp2_with fail
  go_ret
  rw [HJ.out]
  exact ⟨rfl, HBA.out⟩
end Go.Proofs.YtmehcogaopackaaGreat
