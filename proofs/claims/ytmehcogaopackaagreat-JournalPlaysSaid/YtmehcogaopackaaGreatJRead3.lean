/-
  The walk of the journal's entry record.
-/
import Derived.Test.YtmehcogaopackaaGreatGG
namespace Go.Proofs.YtmehcogaopackaaGreat
open Go.RowKit
set_option linter.unusedVariables false
set_option linter.unusedSimpArgs false
theorem infoEntry : (Tryz.prog.info? 116).map (fun i => (i.zero, i.size, i.bytes)) = some (some (.agg #[.int .u64 0, .int .i64 0, .string { data := #[] }]), 3, 32) := by kernel_rfl
/-- the reader, the state, and the entry that was read -/
def EW (s : Bytes) (b k : Nat) (w0 : World) (cs : Array Value) (st : Nat × Nat) (g : Nat) (ec : Array Value) (W : World) : Prop := JR s b k 98 w0 cs st W ∧ W.heap[g]? = some (.cells ec 116)
theorem EW.below {s b k w0 cs st g ec W W'} (h : EW s b k w0 cs st g ec W) (hb : Below W.heap.size W W') : EW s b k w0 cs st g ec W' :=
  ⟨h.1.below hb, (hb.block g (Array.getElem?_eq_some_iff.1 h.2).1).trans h.2⟩
/-- a row that is cut -/
theorem ownsRow_take {w : World} {B : Nat} {e : TypeId} {s : Nat} {a : Option Addr} {n cap j : Nat} {xs : List Value} (h : w.ownsRow B e s (.slice a n cap) n xs) (hj : j ≤ n) : w.ownsRow B e s (.slice a j cap) j (xs.take (j * s)) := by
  obtain ⟨hl, h⟩ := h
  have hm : j * s ≤ n * s := Nat.mul_le_mul_right _ hj
  refine ⟨by rw [List.length_take]; omega, ?_⟩
  rcases h with ⟨h1, rfl⟩ | ⟨g, cap', cur, h1, h2, h3, h4, h5, h6, h7⟩
  · cases h1
    obtain rfl : j = 0 := by omega
    exact .inl ⟨rfl, rfl⟩
  · cases h1
    refine .inr ⟨g, cap, cur, rfl, h2, h3, by omega, h5, h6, ?_⟩
    rw [← h7, List.take_take, Nat.min_eq_left hm]
theorem enVals_take : ∀ (l : List En) (j : Nat), (enVals l).take (j * 3) = enVals (l.take j)
  | [], j => by simp [enVals]
  | a :: l, 0 => by simp [enVals]
  | a :: l, j + 1 => by
    have := enVals_take l j
    rw [show (j + 1) * 3 = j * 3 + 1 + 1 + 1 by omega]
    show [.int .u64 a.term, .int .i64 a.kind, .string (str a.data)] ++ (enVals l).take (j * 3) = enVals (a :: l.take j)
    rw [this]
    rfl
theorem cells_three {w : World} (x y z : Value) (t : TypeId) : ∀ j u, [x, y, z][j]? = some u → (w.alloc (.cells #[x, y, z] t)).cell? ((⟨w.heap.size, 0, none⟩ : Addr).add j) = some u := by
  intro j u hu
  have h := heap_alloc_new w (.cells #[x, y, z] t)
  rw [show (⟨w.heap.size, 0, none⟩ : Addr).add j = ⟨w.heap.size, j, none⟩ from by unfold Addr.add; split <;> simp_all]
  exact cell_in h j u (by simpa using hu)
theorem ownB (a : Option Addr) (n m c c' : Nat) : (Value.slice a n c).ownBlock = (Value.slice a m c').ownBlock := by cases a <;> rfl
theorem enVals_snoc (l : List En) (e : En) : enVals (l ++ [e]) = enVals l ++ [.int .u64 e.term, .int .i64 e.kind, .string (str e.data)] := by simp [enVals]

set_option maxRecDepth 100000 in
set_option maxHeartbeats 4000000 in
theorem entry_ok {s : Bytes} {b k : Nat} {w : World} {st st1 st2 st3 st4 : Nat × Nat} {i t kd base n : Nat} {d : Bytes} (hs : s.length ≤ 1152921504606846976) (E0 : Hid (pNum s st = (i, st1))) (E1 : Hid (pNum s st1 = (t, st2)))
    (E2 : Hid (pCount 3 s st2 = (kd, st3))) (E3 : Hid (pText 2048 s st3 = (d, st4))) (hi : i < top64) (hd : d.length ≤ 2048) (hbs : base ≤ 4611686018427387904) (hn : n ≤ 1000000000000)
    (x0 x1 x2 x4 x5 x7 x8 : Value) (al : Option Addr) (cl : Nat) {l : List En} (hll : l.length = n) {B : Nat} (hB : B ≤ w.heap.size) (hbB : B ≤ b) (hkB : B ≤ k) (ho : w.ownsRow B 116 3 (.slice al n cl) n (enVals l)) (hm : mayEn ⟨t, kd, d⟩ = true) (hbi : base < i) (hin : i - base - 1 ≤ n)
    (h : JR s b k 98 w #[x0, x1, x2, .int .u64 base, x4, x5, .slice al n cl, x7, x8] st w) :
    Calls Tryz.prog 85 #[.pointer (some ⟨k, 0, none⟩), .pointer (some ⟨b, 0, none⟩)] w fun e w' => e = .returned (.tuple #[]) ∧ ∃ vl, w'.ownsRow B 116 3 vl (i - base - 1 + 1) (enVals (l.take (i - base - 1) ++ [⟨t, kd, d⟩])) ∧ RS w' b s st4 ∧ w'.heap[k]? = some (.cells #[x0, x1, x2, .int .u64 base, x4, x5, vl, x7, x8] 98) ∧ Turn (b :: k :: ownL (.slice al n cl)) w w' := by
  have HJ0 := hid h
  have hkl := h.lt
  have hbl := h.1.lt
  have HME := hid (show d.length ≤ maxLen by unfold maxLen; omega)
  have HH := hid h
  clear h
  unfold top64 at hi
  go_enter Tryz.func85, Tryz.ntmps85
  go_wp2_with fail
  refine Calls.mono (jrNum hs E0.out HJ0.out) ?_
  rintro e w1 ⟨rfl, J1, _⟩
  have HJ1 := hid J1
  clear J1 HJ0
  go_wp2_with fail
  refine Calls.mono (jrNum hs E1.out HJ1.out) ?_
  rintro e w2 ⟨rfl, J2, _⟩
  have HJ2 := hid J2
  clear J2 HJ1
  go_wp2_with fail
  refine Calls.mono (jrCount (m := 3) (by decide) hs E2.out HJ2.out) ?_
  rintro e w3 ⟨rfl, J3, _⟩
  have HJ3 := hid J3
  clear J3 HJ2
  go_wp2_with fail
  refine Calls.mono (jrText (m := 2048) (by decide) hs E3.out HJ3.out) ?_
  rintro e w4 ⟨rfl, J4, _⟩
  have hE : EW s b k w #[x0, x1, x2, .int .u64 base, x4, x5, .slice al n cl, x7, x8] st4 w4.heap.size #[.int .u64 t, .int .i64 (kd : Nat), .string (str d)] (w4.alloc (.cells #[.int .u64 t, .int .i64 (kd : Nat), .string (str d)] 116)) := ⟨J4.below ((Below.refl _ _).alloc (Nat.le_refl _) _), heap_alloc_new _ _⟩
  have hks : k < w4.heap.size := J4.lt
  have HE := hid hE
  have hwg : w.heap.size ≤ w4.heap.size := J4.kept.2.2.2.1
  clear hE J4 HJ3
  go_wp2_with fail
  generalize hge : w4.heap.size = g at *
  generalize w4.alloc (.cells #[.int .u64 t, .int .i64 (kd : Nat), .string (str d)] 116) = W5 at *
  have hE5 : EW s b k w #[x0, x1, x2, .int .u64 base, x4, x5, .slice al n cl, x7, x8] st4 g #[.int .u64 t, .int .i64 (kd : Nat), .string (str d)] W5.drew := HE.out
  have HCO : Hid (∀ W : World, EW s b k w #[x0, x1, x2, .int .u64 base, x4, x5, .slice al n cl, x7, x8] st4 g #[.int .u64 t, .int .i64 (kd : Nat), .string (str d)] W → W.cell? ⟨g, 0, none⟩ = some (.int .u64 t) ∧ W.cell? ⟨g, 1, none⟩ = some (.int .i64 (kd : Nat)) ∧ W.cell? ⟨g, 2, none⟩ = some (.string (str d)) ∧ W.cell? ⟨k, 3, none⟩ = some (.int .u64 base) ∧ W.cell? ⟨k, 6, none⟩ = some (.slice al n cl)) :=
    fun W h => ⟨cell_in h.2 0 _ rfl, cell_in h.2 1 _ rfl, cell_in h.2 2 _ rfl, h.1.at 3 _ rfl, h.1.at 6 _ rfl⟩
  have hw1 : IntKind.u64.wrap ((i : Int) - (base : Int)) = ((i - base : Nat) : Int) := by rw [IntKind.wrap_u64]; omega
  have hw2 : IntKind.u64.wrap (((i - base : Nat) : Int) - 1) = ((i - base - 1 : Nat) : Int) := by rw [IntKind.wrap_u64]; omega
  have hw3 : IntKind.u64.wrap (n : Int) = (n : Int) := by rw [IntKind.wrap_u64]; omega
  have hlt : (base : Int) < (i : Int) := by omega
  have hjn : ((i - base - 1 : Nat) : Int) ≤ (n : Int) := by omega
  go_region_held3 (fun W => W.cell? ⟨g, 0, none⟩ = some (.int .u64 t) ∧ W.cell? ⟨g, 1, none⟩ = some (.int .i64 (kd : Nat)) ∧ W.cell? ⟨g, 2, none⟩ = some (.string (str d)) ∧ W.cell? ⟨k, 3, none⟩ = some (.int .u64 base) ∧ W.cell? ⟨k, 6, none⟩ = some (.slice al n cl)) (exact HCO.out _ (by assumption))
    (first
    | (go_at_call 66; refine Calls.mono (may_en ⟨t, kd, d⟩ HME.out _) ?_; rintro e w6 ⟨rfl, hb6⟩; have hE6 := EW.below hE5 hb6; clear hb6)
    | (go_at_call 81; refine Calls.mono (must_yes (by simp; try omega) _) ?_; rintro e w7 ⟨rfl, rfl⟩))
  have HE6 := hid hE6
  have HO6 : Hid (w7.ownsRow B 116 3 (.slice al n cl) n (enVals l)) := ownsRow_of_block ho (fun r hr => HE6.out.1.kept.2.2.2.2 r (ho.lt r hr).2
    (fun e => by subst e; exact own_ne ho HH.out.1.1 (fun cur e => by cases e) hr.symm) (fun e => by subst e; exact own_ne ho HH.out.2.1 (fun cur e => by cases e) hr.symm))
  have hjc : ((i - base - 1 : Nat) : Int) ≤ (cl : Int) := by
    rcases ho.2 with ⟨e1, e2⟩ | ⟨g', cap', cur, e1, _, _, e2, _⟩
    · cases e1; omega
    · cases e1; omega
  clear ho hE5 hE6
  generalize hj : i - base - 1 = j at *
  have hj0 : (0 : Int) ≤ (j : Int) := by omega
  have HOA := hid ((ownsRow_take HO6.out (j := j) (by omega)).alloc (.cells #[.int .u64 t, .int .i64 (kd : Nat), .string (str d)] 116))
  have HEA := hid (show EW s b k w #[x0, x1, x2, .int .u64 base, x4, x5, .slice al n cl, x7, x8] st4 g #[.int .u64 t, .int .i64 (kd : Nat), .string (str d)] (w7.alloc (.cells #[.int .u64 t, .int .i64 (kd : Nat), .string (str d)] 116)) from HE6.out.below ((Below.refl _ _).alloc (Nat.le_refl _) _))
  have b0 : w7.drew.cell? ⟨g, 0, none⟩ = some (.int .u64 t) := (HCO.out _ HE6.out).1
  have b1 : w7.drew.cell? ⟨g, 1, none⟩ = some (.int .i64 (kd : Nat)) := (HCO.out _ HE6.out).2.1
  have b2 : w7.drew.cell? ⟨g, 2, none⟩ = some (.string (str d)) := (HCO.out _ HE6.out).2.2.1
  have b3 : w7.drew.cell? ⟨k, 3, none⟩ = some (.int .u64 base) := (HCO.out _ HE6.out).2.2.2.1
  have b6 : w7.drew.cell? ⟨k, 6, none⟩ = some (.slice al n cl) := (HCO.out _ HE6.out).2.2.2.2
  have a3 : (w7.alloc (.cells #[.int .u64 t, .int .i64 (kd : Nat), .string (str d)] 116)).drew.cell? ⟨k, 3, none⟩ = some (.int .u64 base) := (HCO.out _ HEA.out).2.2.2.1
  have a6 : (w7.alloc (.cells #[.int .u64 t, .int .i64 (kd : Nat), .string (str d)] 116)).drew.cell? ⟨k, 6, none⟩ = some (.slice al n cl) := (HCO.out _ HEA.out).2.2.2.2
  obtain ⟨i0, hi0, hz0, hz1, hz2⟩ := info_parts infoEntry
  go_wp2_with fail
  go_region_law (refine step_append_own rfl (.tmp 59) (.tmp 61) 47 rfl B 116 i0 (.agg #[.int .u64 0, .int .i64 0, .string { data := #[] }]) 3 32 Tryz.underlying47 hi0 hz0 hz1 hz2 rfl (by decide) (.slice al j cl) j (List.take (j * 3) (enVals l)) (by simp [Act.eval, Act.put]) (by exact HOA.out) ⟨w7.heap.size, 0, none⟩ 1 1 [.int .u64 t, .int .i64 (kd : Nat), .string (str d)] (by simp [Act.eval, Act.put]) rfl (by exact cells_three (w := w7.drew) _ _ _ _) (by simp [Value.oneCell']) (by unfold maxLen; omega) (by omega) (by have := HEA.out.1.kept.2.2.2.1; exact Nat.le_trans hB this) ?_; intro v' w8 hown' hgrow hloc; obtain ⟨a', c', rfl⟩ := own_form hown'; have HP2 := hid ((hgrow.block k (Nat.lt_of_lt_of_le hkl HEA.out.1.kept.2.2.2.1) (own_ne HOA.out HEA.out.1.2.1 (fun cur e => by cases e))).trans HEA.out.1.2.1); have c3' := cell_in HP2.out 3 _ rfl; have c6' := cell_in HP2.out 6 _ rfl; have f6' := free_in HP2.out 6)
  all_goals
    have HOW := hid hown'
    have hrow : (Value.slice a' (j + 1) c').ownBlock ≠ some k := fun e => own_ne hown' HP2.out (fun cur e => by cases e) e.symm
    have HOS := hid (hown'.kept (grown_set w8 k 6 (.slice a' (j + 1) c')) (.inr hrow))
    have HPS := hid (heap_set HP2.out 6 (.slice a' (j + 1) c'))
    have hg2 : (w7.alloc (.cells #[.int .u64 t, .int .i64 (kd : Nat), .string (str d)] 116)).grownBy w8 (Value.slice al n cl).ownBlock := by
      rw [ownB al n j cl cl]
      exact ⟨hgrow.os, hgrow.tape, hgrow.output, hgrow.size, hgrow.block⟩
    have hbr : some b ≠ (Value.slice al n cl).ownBlock := own_ne HO6.out HE6.out.1.1.1 (fun cur e => by cases e)
    have hbl7 : b < w7.heap.size := HE6.out.1.1.lt
    have e8 : w8.heap[b]? = w7.heap[b]? := (hg2.block b (by rw [World.size_alloc]; exact Nat.lt_succ_of_lt hbl7) hbr).trans (heap_alloc_old w7 _ hbl7)
    have HRS : Hid (RS (w8.setCell ⟨k, 6, none⟩ (.slice a' (j + 1) c')) b s st4) := ⟨by
      have h1 := HE6.out.1.1.1
      unfold RD at *
      rw [Below.heap_setCell _ _ _ _ HE6.out.1.2.2.2, e8]
      exact h1, HE6.out.1.1.2⟩
    have HTT : Hid (Turn (b :: k :: ownL (.slice al n cl)) w (w8.setCell ⟨k, 6, none⟩ (.slice a' (j + 1) c'))) := by
      have t0 : Turn (b :: k :: ownL (.slice al n cl)) w w7 := ⟨HE6.out.1.kept.1, HE6.out.1.kept.2.1, HE6.out.1.kept.2.2.1, HE6.out.1.kept.2.2.2.1, fun q hq hn => HE6.out.1.kept.2.2.2.2 q hq (fun e => hn (by simp [e])) (fun e => hn (by simp [e]))⟩
      have t1 : Turn (b :: k :: ownL (.slice al n cl)) w7 (w7.alloc (.cells #[.int .u64 t, .int .i64 (kd : Nat), .string (str d)] 116)) := Turn.alloc w7 _
      have t2 : Turn (b :: k :: ownL (.slice al n cl)) (w7.alloc (.cells #[.int .u64 t, .int .i64 (kd : Nat), .string (str d)] 116)) w8 := ⟨hg2.os, hg2.tape, hg2.output, hg2.size, fun q hq hn => hg2.block q hq (fun e => hn (List.mem_cons_of_mem _ (List.mem_cons_of_mem _ (mem_ownL.2 (show (Value.slice al n cl).ownBlock = some q from e.symm)))))⟩
      exact (((t0.trans t1 (fun _ h => .inl h)).trans t2 (fun _ h => .inl h)).trans (Turn.set w8 k 6 _ (by simp)) (fun _ h => .inl h))
    clear hown' hgrow hg2 hloc hrow hbr e8 c3' c6' f6' HP2
    go_wp2_with fail
    go_end0
    refine ⟨rfl, _, ?_, HRS.out, HPS.out, HTT.out⟩
    rw [hj, enVals_snoc, ← enVals_take]
    exact HOS.out
end Go.Proofs.YtmehcogaopackaaGreat
