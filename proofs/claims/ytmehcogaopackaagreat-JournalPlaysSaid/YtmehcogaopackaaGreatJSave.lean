/-
  The walk of the journal's Save.
-/
import Derived.Test.YtmehcogaopackaaGreatGJ
namespace Go.Proofs.YtmehcogaopackaaGreat
open Go.RowKit
set_option linter.unusedVariables false
set_option linter.unusedSimpArgs false
instance : DecidableEq Hd := fun a b => by
  obtain ⟨a1, a2, a3⟩ := a
  obtain ⟨b1, b2, b3⟩ := b
  rw [Hd.mk.injEq]
  exact inferInstance
/-- what Save does -/
def jSave (d : Ds) (S : Js) (h : Hd) : Ds × Js × Nat :=
  if h.vote < 0 ∨ 5 < h.vote then (d, S, 1) else
  if (⟨h.term, h.vote, S.hard.life⟩ : Hd) = S.hard then (d, S, 0) else
  if (Ds.sync' (d.add (hardRec ⟨h.term, h.vote, S.hard.life⟩))).2 ≠ 0 then ((Ds.sync' (d.add (hardRec ⟨h.term, h.vote, S.hard.life⟩))).1, S, (Ds.sync' (d.add (hardRec ⟨h.term, h.vote, S.hard.life⟩))).2) else
  ((Ds.sync' (d.add (hardRec ⟨h.term, h.vote, S.hard.life⟩))).1, ⟨⟨h.term, h.vote, S.hard.life⟩, S.log, S.image⟩, 0)
/-- a journal's disk, and what a call of the disk leaves of the journal -/
theorem JnAt.opened {W : World} {j p : Nat} {G : List Nat} {d : Ds} {S : Js} (h : JnAt W j p G d S) : ∃ F, DkAt W p F d ∧ (∀ b ∈ F, b ∈ G) ∧ j ∉ F ∧ j ∈ G ∧ ∀ W' d', After W p F d' W' → JnAfter W j p G d' S W' := by
  obtain ⟨F, z, vc, vl, h1, h2, h3, h4, h5, h6, h6', h7, h8, h9, h10, h11, h12⟩ := h
  refine ⟨F, h2, h9, h8, h7, ?_⟩
  rintro W' d' ⟨F', k1, k2, k3⟩
  have hn : ∀ b ∈ G, b ∉ F → b ∉ F' := fun b hb hf hm => by
    rcases k2 b hm with h | h
    · exact hf h
    · have := h12 b hb; omega
  refine ⟨G ++ F', ⟨F', z, vc, vl, (k3.block (h12 j h7) h8).trans h1, k1, ownsRow_of_block h3 (fun r hr => k3.block (h12 r (h10 r hr).1) (h10 r hr).2), ownsRow_of_block h4 (fun r hr => k3.block (h12 r (h11 r hr).1) (h11 r hr).2), h5, h6, h6', by simp [h7], hn j h7 h8, fun b hb => by simp [hb], fun r hr => ⟨by simp [(h10 r hr).1], hn r (h10 r hr).1 (h10 r hr).2⟩, fun r hr => ⟨by simp [(h11 r hr).1], hn r (h11 r hr).1 (h11 r hr).2⟩, ?_⟩, ?_, ?_⟩
  · intro b hb
    rcases List.mem_append.1 hb with hb | hb
    · exact Nat.lt_of_lt_of_le (h12 b hb) k3.size
    · exact k1.lt b hb
  · intro b hb
    rcases List.mem_append.1 hb with hb | hb
    · exact .inl hb
    · rcases k2 b hb with h | h
      · exact .inl (h9 b h)
      · exact .inr h
  · exact k3.mono h9
theorem JnAt.mem {W : World} {j p : Nat} {G : List Nat} {d : Ds} {S : Js} (h : JnAt W j p G d S) : j ∈ G := by
  obtain ⟨F, _, _, _, h, _⟩ := h.opened
  exact h
theorem JnAt.hard {W : World} {j p : Nat} {G : List Nat} {d : Ds} {S : Js} (h : JnAt W j p G d S) (x : Hd) (hx : JsOk ⟨x, S.log, S.image⟩) : JnAt (((W.setCell ⟨j, 1, none⟩ (.int .u64 x.term)).setCell ⟨j, 2, none⟩ (.int .i64 x.vote)).setCell ⟨j, 3, none⟩ (.int .u64 x.life)) j p G d ⟨x, S.log, S.image⟩ := by
  obtain ⟨F, z, vc, vl, h1, h2, h3, h4, h5, h6, h6', h7, h8, h9, h10, h11, h12⟩ := h
  have t : Turn [j] W (((W.setCell ⟨j, 1, none⟩ (.int .u64 x.term)).setCell ⟨j, 2, none⟩ (.int .i64 x.vote)).setCell ⟨j, 3, none⟩ (.int .u64 x.life)) :=
    ((Turn.set W j 1 _ (by simp)).trans (Turn.set _ j 2 _ (by simp)) (fun b h => .inl h)).trans (Turn.set _ j 3 _ (by simp)) (fun b h => .inl h)
  have hb : ((((W.setCell ⟨j, 1, none⟩ (.int .u64 x.term)).setCell ⟨j, 2, none⟩ (.int .i64 x.vote)).setCell ⟨j, 3, none⟩ (.int .u64 x.life))).heap[j]? = some (.cells (jnCells p ⟨x, S.log, S.image⟩ z vc vl) 107) := heap_set (heap_set (heap_set h1 1 _) 2 _) 3 _
  have nc : some j ≠ vc.ownBlock := own_ne h3 h1 (fun cur e => by cases e)
  have nl : some j ≠ vl.ownBlock := own_ne h4 h1 (fun cur e => by cases e)
  exact ⟨F, z, vc, vl, hb, h2.turn t (by simpa using h8), ownsRow_of_block h3 (fun r hr => t.block (h3.lt r hr).2 (by simp; intro e; exact nc (by rw [hr, e]))), ownsRow_of_block h4 (fun r hr => t.block (h4.lt r hr).2 (by simp; intro e; exact nl (by rw [hr, e]))), hx, h6, h6', h7, h8, h9, h10, h11, fun b hb => Nat.lt_of_lt_of_le (h12 b hb) t.size⟩
/-- the journal's cells, and the box of the term and the vote -/
def SvAt (j bk : Nat) (jc hc : Array Value) (W : World) : Prop := W.heap[j]? = some (.cells jc 107) ∧ W.heap[bk]? = some (.cells hc 45)
theorem SvAt.turn {j bk : Nat} {jc hc : Array Value} {W W' : World} (h : SvAt j bk jc hc W) {F : List Nat} (t : Turn F W W') (h1 : j ∉ F) (h2 : bk ∉ F) : SvAt j bk jc hc W' :=
  ⟨(t.block (Array.getElem?_eq_some_iff.1 h.1).1 h1).trans h.1, (t.block (Array.getElem?_eq_some_iff.1 h.2).1 h2).trans h.2⟩
theorem boxHard (W : World) (cs : Array Value) : Below W.heap.size W (W.alloc (.cells cs 45)) := (Below.refl _ _).alloc (Nat.le_refl _) _
set_option maxRecDepth 100000 in
set_option maxHeartbeats 4000000 in
theorem save_any {W : World} {j p : Nat} {G : List Nat} {d : Ds} {S : Js} (h : JnAt W j p G d S) {n : Nat} (hok : d.Ok n) (hn : n ≤ 900000) (term : Nat) (vote : Int) (life : Nat) (ht : term < top64) :
    Calls Tryz.prog 26 #[.pointer (some ⟨j, 0, none⟩), .agg #[.int .u64 term, .int .i64 vote, .int .u64 life]] W fun e W' => e = .returned (.int .i64 ((jSave d S ⟨term, vote, life⟩).2.2 : Nat)) ∧ JnAfter W j p G (jSave d S ⟨term, vote, life⟩).1 (jSave d S ⟨term, vote, life⟩).2.1 W' := by
  have hb0 := boxHard W #[.int .u64 term, .int .i64 vote, .int .u64 life]
  have hk0 := heap_alloc_new W (.cells #[.int .u64 term, .int .i64 vote, .int .u64 life] 45)
  have HB0 := hid hb0
  have HK0 := hid hk0
  have H := hid h
  clear h hb0 hk0
  by_cases hv : vote < 0 ∨ 5 < vote
  · have HJ := hid (show jSave d S ⟨term, vote, life⟩ = (d, S, 1) from if_pos hv)
    have c1 := cell_in HK0.out 1 (.int .i64 vote) rfl
    rcases hv with hv | hv
    · go_enter Tryz.func26, Tryz.ntmps26
      go_wp2_with fail
      go_ret
      rw [HJ.out]
      exact ⟨rfl, JnAfter.same H.out HB0.out⟩
    · have hv2 : ¬ (vote < 0) := by omega
      go_enter Tryz.func26, Tryz.ntmps26
      go_wp2_with fail
      go_ret
      rw [HJ.out]
      exact ⟨rfl, JnAfter.same H.out HB0.out⟩
  · have hv1 : ¬ (vote < 0) := by omega
    have hv2 : ¬ (5 < vote) := by omega
    have HJ := hid (show jSave d S ⟨term, vote, life⟩ = if (⟨term, vote, S.hard.life⟩ : Hd) = S.hard then (d, S, 0) else
      if (Ds.sync' (d.add (hardRec ⟨term, vote, S.hard.life⟩))).2 ≠ 0 then ((Ds.sync' (d.add (hardRec ⟨term, vote, S.hard.life⟩))).1, S, (Ds.sync' (d.add (hardRec ⟨term, vote, S.hard.life⟩))).2) else
      ((Ds.sync' (d.add (hardRec ⟨term, vote, S.hard.life⟩))).1, ⟨⟨term, vote, S.hard.life⟩, S.log, S.image⟩, 0) from if_neg hv)
    obtain ⟨z, vc, vl, h1, _, _⟩ := H.out.cells
    have h2 := blk_below h1 HB0.out
    have hjk : j < W.heap.size := (Array.getElem?_eq_some_iff.1 h1).1
    have b0 := cell_in HK0.out 0 (.int .u64 term) rfl
    have b1 := cell_in HK0.out 1 (.int .i64 vote) rfl
    have b2 := cell_in HK0.out 2 (.int .u64 life) rfl
    have g2 := free_in HK0.out 2
    have c0 := cell_in h2 0 (.pointer (some ⟨p, 0, none⟩)) rfl
    have c1 := cell_in h2 1 (.int .u64 S.hard.term) rfl
    have c2 := cell_in h2 2 (.int .i64 S.hard.vote) rfl
    have c3 := cell_in h2 3 (.int .u64 S.hard.life) rfl
    clear h1 h2
    go_enter Tryz.func26, Tryz.ntmps26
    go_wp2_with fail
    clear b0 b1 b2 g2 c0 c1 c2 c3
    have hb1 := boxHard W #[.int .u64 term, .int .i64 vote, .int .u64 S.hard.life]
    have hk1 := heap_alloc_new W (.cells #[.int .u64 term, .int .i64 vote, .int .u64 S.hard.life] 45)
    generalize W.alloc (.cells #[.int .u64 term, .int .i64 vote, .int .u64 S.hard.life] 45) = W1 at *
    have h1 := H.out.below hb1
    have HH1 := hid h1
    have HB1 := hid hb1
    have HK1 := hid hk1
    obtain ⟨F, g2, g9, g8, g7, gA⟩ := h1.opened
    obtain ⟨z, vc, vl, g1, _, _⟩ := h1.cells
    have HG1 := hid g1
    have HD1 := hid g2
    have HJO := hid h1.ok.1
    have HFG := hid g9
    have HJF := hid g8
    have HGA := hid gA
    have b0 : W1.drew.cell? ⟨W.heap.size, 0, none⟩ = some (.int .u64 term) := cell_in (w := W1.drew) HK1.out 0 _ rfl
    have b1 : W1.drew.cell? ⟨W.heap.size, 1, none⟩ = some (.int .i64 vote) := cell_in (w := W1.drew) HK1.out 1 _ rfl
    have b2 : W1.drew.cell? ⟨W.heap.size, 2, none⟩ = some (.int .u64 S.hard.life) := cell_in (w := W1.drew) HK1.out 2 _ rfl
    have c0 : W1.drew.cell? ⟨j, 0, none⟩ = some (.pointer (some ⟨p, 0, none⟩)) := cell_in (w := W1.drew) HG1.out 0 _ rfl
    have c1 : W1.drew.cell? ⟨j, 1, none⟩ = some (.int .u64 S.hard.term) := cell_in (w := W1.drew) HG1.out 1 _ rfl
    have c2 : W1.drew.cell? ⟨j, 2, none⟩ = some (.int .i64 S.hard.vote) := cell_in (w := W1.drew) HG1.out 2 _ rfl
    have c3 : W1.drew.cell? ⟨j, 3, none⟩ = some (.int .u64 S.hard.life) := cell_in (w := W1.drew) HG1.out 3 _ rfl
    clear g1 g2 g7 g8 g9 gA hb1 hk1 h1
    generalize hbk : W.heap.size = bk at *
    have hq : ∀ w : World, (binOp BinOp.eql 45 (.agg #[.int .u64 term, .int .i64 vote, .int .u64 S.hard.life]) (.agg #[.int .u64 S.hard.term, .int .i64 S.hard.vote, .int .u64 S.hard.life])).run Tryz.prog w = .ok (.bool (decide ((⟨term, vote, S.hard.life⟩ : Hd) = S.hard))) w := fun w => by
      obtain ⟨⟨t', v', l'⟩, _, _⟩ := S
      simp only [Hd.mk.injEq]
      go_simp
      by_cases e1 : term = t'
      · by_cases e2 : vote = v'
        · simp [e1, e2]
        · simp [e1, e2]
      · have : ¬ ((term : Int) = (t' : Int)) := by omega
        simp [e1, this]
    generalize hqd : decide ((⟨term, vote, S.hard.life⟩ : Hd) = S.hard) = q at *
    go_region
    cases q
    · have HJ1 := hid (HJ.out.trans (if_neg (of_decide_eq_false hqd)))
      have HP := hid (hok.add (hardRec ⟨term, vote, S.hard.life⟩))
      have hrl := hardRec_len ⟨term, vote, S.hard.life⟩
      have hE1 : SvAt j bk (jnCells p S z vc vl) #[.int .u64 term, .int .i64 vote, .int .u64 S.hard.life] W1.drew.drew := ⟨HG1.out, HK1.out⟩
      have HCO : Hid (∀ W' : World, SvAt j bk (jnCells p S z vc vl) #[.int .u64 term, .int .i64 vote, .int .u64 S.hard.life] W' → W'.cell? ⟨j, 0, none⟩ = some (.pointer (some ⟨p, 0, none⟩)) ∧ W'.cell? ⟨bk, 0, none⟩ = some (.int .u64 term) ∧ W'.cell? ⟨bk, 1, none⟩ = some (.int .i64 vote) ∧ W'.cell? ⟨bk, 2, none⟩ = some (.int .u64 S.hard.life)) :=
        fun W' h => ⟨cell_in h.1 0 _ rfl, cell_in h.2 0 _ rfl, cell_in h.2 1 _ rfl, cell_in h.2 2 _ rfl⟩
      have hbF : bk ∉ F := fun hm => by
        have h0 := HFG.out bk hm
        have := H.out.lt bk h0
        omega
      have HBF := hid hbF
      clear hq hqd HJ b0 b1 b2 c0 c1 c2 c3 hbF
      go_wp2_with fail
      go_region_held3 (fun W' => W'.cell? ⟨j, 0, none⟩ = some (.pointer (some ⟨p, 0, none⟩)) ∧ W'.cell? ⟨bk, 0, none⟩ = some (.int .u64 term) ∧ W'.cell? ⟨bk, 1, none⟩ = some (.int .i64 vote) ∧ W'.cell? ⟨bk, 2, none⟩ = some (.int .u64 S.hard.life)) (exact HCO.out _ (by assumption))
        (first
        | (go_at_call 48; refine Calls.mono (hard_any ⟨term, vote, S.hard.life⟩ ht ⟨by simp only; omega, by simp only; omega⟩ HJO.out.2.2.1 _) ?_; rintro e w2 ⟨rfl, hb2⟩; have HB2 : Hid (Below W1.heap.size W1 w2) := ⟨hb2.os, hb2.tape, hb2.output, hb2.size, hb2.block⟩; have hE2 := hE1.turn (.below (F := []) hb2) (by simp) (by simp); have HD2 := hid (HD1.out.below HB2.out); clear hb2)
        | (go_at_call 47; refine Calls.mono (add_any HD2.out hok.1 (by have := hok.2; omega) _ (by omega)) ?_; rintro e w3 ⟨rfl, ha3⟩; obtain ⟨F3, hd3, hf3, ht3⟩ := ha3; have hE3 := hE2.turn ht3 HJF.out HBF.out; have HD3 := hid hd3; have HF3 := hid hf3; have HT3 := hid ht3; clear hd3 hf3 ht3)
        | (go_at_call 44; refine Calls.mono (jsync_any HD3.out HP.out.1.1 HP.out.2) ?_; rintro e w4 ⟨rfl, ha4⟩; have HA4 := hid (After.trans HT3.out HF3.out ha4); have hE4 : SvAt j bk (jnCells p S z vc vl) #[.int .u64 term, .int .i64 vote, .int .u64 S.hard.life] w4 := (by obtain ⟨_, _, _, t⟩ := HA4.out; exact hE2.turn t HJF.out HBF.out); clear ha4))
      have HA1 := hid (HGA.out _ _ (After.trans (Turn.below HB2.out) (fun _ h => .inl h) HA4.out))
      have HB1' : Hid (Below W.heap.size W W1) := hid (by rw [hbk]; exact HB1.out)
      have HE4 := hid (HCO.out _ hE4)
      clear hE1 hE2 hE3 hE4 HD2 HD3 HF3 HT3 HA4 HB2
      generalize hqq : Ds.sync' (d.add (hardRec ⟨term, vote, S.hard.life⟩)) = q3 at *
      obtain ⟨d3, e4⟩ := q3
      simp only at HA1 HJ1 ⊢
      by_cases he4 : e4 = 0
      · subst he4
        have HJ2 := hid (HJ1.out.trans (if_neg (by simp)))
        obtain ⟨G4, k1, k2, k3⟩ := HA1.out
        have HK1 := hid k1
        have HK2 := hid k2
        have HK3 := hid k3
        obtain ⟨z4, vc4, vl4, m1, _, _⟩ := k1.cells
        have mm1 := hid m1
        have n1 := cell_in m1 1 (.int .u64 S.hard.term) rfl
        have n2 := cell_in m1 2 (.int .i64 S.hard.vote) rfl
        have n3 := cell_in m1 3 (.int .u64 S.hard.life) rfl
        have u1 := free_in m1 1
        have u2 := free_in m1 2
        have u3 := free_in m1 3
        have a0 := HE4.out.2.1
        have a1 := HE4.out.2.2.1
        have a2 := HE4.out.2.2.2
        have HJ3 : Hid (JsOk ⟨⟨term, vote, S.hard.life⟩, S.log, S.image⟩) := ⟨ht, ⟨by simp only; omega, by simp only; omega⟩, HJO.out.2.2.1, HJO.out.2.2.2⟩
        clear k1 k2 k3 m1 HJ1 hqq
        go_wp2_with fail
        go_ret
        rw [HJ2.out]
        have t : Turn G4 w4 (((w4.setCell ⟨j, 1, none⟩ (.int .u64 term)).setCell ⟨j, 2, none⟩ (.int .i64 vote)).setCell ⟨j, 3, none⟩ (.int .u64 S.hard.life)) :=
          ((Turn.set w4 j 1 _ HK1.out.mem).trans (Turn.set _ j 2 _ HK1.out.mem) (fun b h => .inl h)).trans (Turn.set _ j 3 _ HK1.out.mem) (fun b h => .inl h)
        exact ⟨rfl, JnAfter.trans (Turn.below HB1'.out) (fun b h => .inl h) ⟨G4, HK1.out.hard ⟨term, vote, S.hard.life⟩ HJ3.out, HK2.out, HK3.out.trans t HK2.out⟩⟩
      · have HJ2 := hid (HJ1.out.trans (if_pos he4))
        have h1 : ((e4 : Int) != 0) = true := by simp only [bne_iff_ne, ne_eq]; omega
        have h2 : ¬ ((e4 : Int) = 0) := by omega
        clear he4 HJ1 hqq
        go_wp2_with fail
        go_ret
        rw [HJ2.out]
        exact ⟨rfl, JnAfter.trans (Turn.below HB1'.out) (fun b h => .inl h) HA1.out⟩
    · have HJ1 := hid (HJ.out.trans (if_pos (of_decide_eq_true hqd)))
      clear hq hqd HJ
      go_wp2_with fail
      go_ret
      rw [HJ1.out]
      exact ⟨rfl, JnAfter.same H.out (by rw [hbk]; exact ⟨HB1.out.os, HB1.out.tape, HB1.out.output, HB1.out.size, HB1.out.block⟩)⟩
end Go.Proofs.YtmehcogaopackaaGreat
