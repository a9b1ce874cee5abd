/-
  The walk of the reference journal's Append.
-/
import Derived.Deep.MidRow
import Derived.Test.YtmehcogaopackaaGreatZApp
namespace Go.Proofs.YtmehcogaopackaaGreat
open Go.RowKit
set_option linter.unusedVariables false
set_option linter.unusedSimpArgs false
set_option maxHeartbeats 2000000 in
theorem set_rstate {W : World} {j p : Nat} {S S' : Js} {vc vl vc' vl' : Value} (h : W.heap[j]? = some (.cells (rjCells p S vc vl) 54)) :
    Turn [j] W ((((((((W.setCell ⟨j, 1, none⟩ (.int .u64 S'.hard.term)).setCell ⟨j, 2, none⟩ (.int .i64 S'.hard.vote)).setCell ⟨j, 3, none⟩ (.int .u64 S'.hard.life)).setCell ⟨j, 4, none⟩ (.int .u64 S'.log.base)).setCell ⟨j, 5, none⟩ (.int .u64 S'.log.bterm)).setCell ⟨j, 6, none⟩ (vc')).setCell ⟨j, 7, none⟩ (vl')).setCell ⟨j, 8, none⟩ (.string (str S'.image))) ∧ ((((((((W.setCell ⟨j, 1, none⟩ (.int .u64 S'.hard.term)).setCell ⟨j, 2, none⟩ (.int .i64 S'.hard.vote)).setCell ⟨j, 3, none⟩ (.int .u64 S'.hard.life)).setCell ⟨j, 4, none⟩ (.int .u64 S'.log.base)).setCell ⟨j, 5, none⟩ (.int .u64 S'.log.bterm)).setCell ⟨j, 6, none⟩ (vc')).setCell ⟨j, 7, none⟩ (vl')).setCell ⟨j, 8, none⟩ (.string (str S'.image))).heap[j]? = some (.cells (rjCells p S' vc' vl') 54) := by
  have hs : ∀ (W : World) (o : Nat) (v : Value), Turn [j] W (W.setCell ⟨j, o, none⟩ v) := fun W o v => Turn.set W j o v (by simp)
  have ht : ∀ {A B C : World}, Turn [j] A B → Turn [j] B C → Turn [j] A C := fun a b => a.trans b (fun _ h => .inl h)
  have a1 : (W.setCell ⟨j, 1, none⟩ (.int .u64 S'.hard.term)).heap[j]? = some (.cells #[.pointer (some ⟨p, 0, none⟩), .int .u64 S'.hard.term, .int .i64 S.hard.vote, .int .u64 S.hard.life, .int .u64 S.log.base, .int .u64 S.log.bterm, vc, vl, .string (str S.image)] 54) := heap_set h 1 _
  have a2 : ((W.setCell ⟨j, 1, none⟩ (.int .u64 S'.hard.term)).setCell ⟨j, 2, none⟩ (.int .i64 S'.hard.vote)).heap[j]? = some (.cells #[.pointer (some ⟨p, 0, none⟩), .int .u64 S'.hard.term, .int .i64 S'.hard.vote, .int .u64 S.hard.life, .int .u64 S.log.base, .int .u64 S.log.bterm, vc, vl, .string (str S.image)] 54) := heap_set a1 2 _
  have a3 : (((W.setCell ⟨j, 1, none⟩ (.int .u64 S'.hard.term)).setCell ⟨j, 2, none⟩ (.int .i64 S'.hard.vote)).setCell ⟨j, 3, none⟩ (.int .u64 S'.hard.life)).heap[j]? = some (.cells #[.pointer (some ⟨p, 0, none⟩), .int .u64 S'.hard.term, .int .i64 S'.hard.vote, .int .u64 S'.hard.life, .int .u64 S.log.base, .int .u64 S.log.bterm, vc, vl, .string (str S.image)] 54) := heap_set a2 3 _
  have a4 : ((((W.setCell ⟨j, 1, none⟩ (.int .u64 S'.hard.term)).setCell ⟨j, 2, none⟩ (.int .i64 S'.hard.vote)).setCell ⟨j, 3, none⟩ (.int .u64 S'.hard.life)).setCell ⟨j, 4, none⟩ (.int .u64 S'.log.base)).heap[j]? = some (.cells #[.pointer (some ⟨p, 0, none⟩), .int .u64 S'.hard.term, .int .i64 S'.hard.vote, .int .u64 S'.hard.life, .int .u64 S'.log.base, .int .u64 S.log.bterm, vc, vl, .string (str S.image)] 54) := heap_set a3 4 _
  have a5 : (((((W.setCell ⟨j, 1, none⟩ (.int .u64 S'.hard.term)).setCell ⟨j, 2, none⟩ (.int .i64 S'.hard.vote)).setCell ⟨j, 3, none⟩ (.int .u64 S'.hard.life)).setCell ⟨j, 4, none⟩ (.int .u64 S'.log.base)).setCell ⟨j, 5, none⟩ (.int .u64 S'.log.bterm)).heap[j]? = some (.cells #[.pointer (some ⟨p, 0, none⟩), .int .u64 S'.hard.term, .int .i64 S'.hard.vote, .int .u64 S'.hard.life, .int .u64 S'.log.base, .int .u64 S'.log.bterm, vc, vl, .string (str S.image)] 54) := heap_set a4 5 _
  have a6 : ((((((W.setCell ⟨j, 1, none⟩ (.int .u64 S'.hard.term)).setCell ⟨j, 2, none⟩ (.int .i64 S'.hard.vote)).setCell ⟨j, 3, none⟩ (.int .u64 S'.hard.life)).setCell ⟨j, 4, none⟩ (.int .u64 S'.log.base)).setCell ⟨j, 5, none⟩ (.int .u64 S'.log.bterm)).setCell ⟨j, 6, none⟩ (vc')).heap[j]? = some (.cells #[.pointer (some ⟨p, 0, none⟩), .int .u64 S'.hard.term, .int .i64 S'.hard.vote, .int .u64 S'.hard.life, .int .u64 S'.log.base, .int .u64 S'.log.bterm, vc', vl, .string (str S.image)] 54) := heap_set a5 6 _
  have a7 : (((((((W.setCell ⟨j, 1, none⟩ (.int .u64 S'.hard.term)).setCell ⟨j, 2, none⟩ (.int .i64 S'.hard.vote)).setCell ⟨j, 3, none⟩ (.int .u64 S'.hard.life)).setCell ⟨j, 4, none⟩ (.int .u64 S'.log.base)).setCell ⟨j, 5, none⟩ (.int .u64 S'.log.bterm)).setCell ⟨j, 6, none⟩ (vc')).setCell ⟨j, 7, none⟩ (vl')).heap[j]? = some (.cells #[.pointer (some ⟨p, 0, none⟩), .int .u64 S'.hard.term, .int .i64 S'.hard.vote, .int .u64 S'.hard.life, .int .u64 S'.log.base, .int .u64 S'.log.bterm, vc', vl', .string (str S.image)] 54) := heap_set a6 7 _
  have a8 : ((((((((W.setCell ⟨j, 1, none⟩ (.int .u64 S'.hard.term)).setCell ⟨j, 2, none⟩ (.int .i64 S'.hard.vote)).setCell ⟨j, 3, none⟩ (.int .u64 S'.hard.life)).setCell ⟨j, 4, none⟩ (.int .u64 S'.log.base)).setCell ⟨j, 5, none⟩ (.int .u64 S'.log.bterm)).setCell ⟨j, 6, none⟩ (vc')).setCell ⟨j, 7, none⟩ (vl')).setCell ⟨j, 8, none⟩ (.string (str S'.image))).heap[j]? = some (.cells #[.pointer (some ⟨p, 0, none⟩), .int .u64 S'.hard.term, .int .i64 S'.hard.vote, .int .u64 S'.hard.life, .int .u64 S'.log.base, .int .u64 S'.log.bterm, vc', vl', .string (str S'.image)] 54) := heap_set a7 8 _
  exact ⟨ht (ht (ht (ht (ht (ht (ht (hs _ _ _) (hs _ _ _)) (hs _ _ _)) (hs _ _ _)) (hs _ _ _)) (hs _ _ _)) (hs _ _ _)) (hs _ _ _), a8⟩

theorem RjAt.restate {G : List Nat} {W W' : World} {j p : Nat} {d : Ds} {S S' : Js} {vc vl : Value} (h : RjAt G W j p d S) (t : Turn [j] W W') (hj : W'.heap[j]? = some (.cells (rjCells p S' vc vl) 54)) (hc : Cells (j :: p :: G) W' vc S'.log.conf.length (intVals S'.log.conf)) (hl : Cells (j :: p :: G) W' vl S'.log.l.length (enVals S'.log.l)) (hok : JsOk S') (hn : S'.log.l.length ≤ 1000000) : RjAt G W' j p d S' := by
  obtain ⟨vc0, vl0, h1, h2, h3, h4, h5, h6, h7, h8⟩ := h
  exact ⟨vc, vl, hj, h2.besides (t.mono (by simp)) (fun b hb => .inl hb), hc, hl, hok, hn, h7, h8⟩
theorem entRecs_ne {l : List En} (fr : Nat) (h : l ≠ []) : (entRecs fr l).flatten ≠ [] := by
  cases l with
  | nil => exact absurd rfl h
  | cons e l =>
    intro e1
    have h1 := congrArg List.length e1
    rw [entRecs, List.flatten_cons, List.length_append, List.length_nil] at h1
    unfold entRec at h1
    rw [frame_length] at h1
    omega
set_option maxRecDepth 100000 in
set_option maxHeartbeats 8000000 in
theorem rjappend_any {G : List Nat} {W : World} {j p : Nat} {d : Ds} {S : Js} (h : RjAt G W j p d S) {n : Nat} (hok : d.Ok n) (hn : n ≤ 900000) (hG : ∀ b ∈ G, b < W.heap.size) (fr : Nat) (l : List En) (v : Value) (hfr : fr < top64) (hv : Cells [] W v l.length (enVals l)) (hl : l.length ≤ 1000) (hsl : S.log.l.length ≤ 900000) (he : ∀ e ∈ l, e.term < top64 ∧ e.data.length ≤ 1048576) :
    Calls Tryz.prog 60 #[.pointer (some ⟨j, 0, none⟩), .int .u64 fr, v] W fun e W' => e = .returned (.int .i64 ((jAppend d S fr l).2.2 : Nat)) ∧ RjAt G W' j p (jAppend d S fr l).1 (jAppend d S fr l).2.1 ∧ Turn [j, p] W W' := by
  have hjl := h.jlt
  have hpl := h.rd.lt
  have HGG : Hid (∀ b ∈ j :: G, b < W.heap.size) := fun b hb => by
    rcases List.mem_cons.1 hb with rfl | hb
    · exact hjl
    · exact hG b hb
  have HGD : Hid (∀ b ∈ j :: p :: G, b < W.heap.size) := fun b hb => by
    rcases List.mem_cons.1 hb with rfl | hb
    · exact hjl
    · rcases List.mem_cons.1 hb with rfl | hb
      · exact hpl
      · exact hG b hb
  have HJO := hid h.ok.1
  obtain ⟨vc, vl, h1, hcc, hcl⟩ := h.cells
  obtain ⟨ac, cc, rfl⟩ := hcc.form
  obtain ⟨al, cl, rfl⟩ := hcl.form
  obtain ⟨av, cv, rfl⟩ := hv.form
  have HAP := hid (rappend_at (D := j :: p :: G) (W := W) S.hard.term S.hard.vote S.hard.life S.log.base S.log.bterm S.log.conf S.log.l S.image S rfl ac cc al cl fr l _ hcl HGD.out hv hfr h.ok.1.2.2.2.1 hl hsl he)
  have c1 := cell_in h1 1 (.int .u64 S.hard.term) rfl
  have c2 := cell_in h1 2 (.int .i64 S.hard.vote) rfl
  have c3 := cell_in h1 3 (.int .u64 S.hard.life) rfl
  have c4 := cell_in h1 4 (.int .u64 S.log.base) rfl
  have c5 := cell_in h1 5 (.int .u64 S.log.bterm) rfl
  have c6 := cell_in h1 6 (.slice ac S.log.conf.length cc) rfl
  have c7 := cell_in h1 7 (.slice al S.log.l.length cl) rfl
  have c8 := cell_in h1 8 (.string (str S.image)) rfl
  have H := hid h
  have HV := hid hv
  have HCC0 := hid hcc
  have HE := hid he
  have HJ := hid (show jAppend d S fr l = if fr ≤ S.log.base ∨ S.log.base + S.log.l.length + 1 < fr ∨ anyBad l = true then (d, S, 1) else
    if l = [] then (d, S, if fr = S.log.base + S.log.l.length + 1 then 0 else 1) else
    if (Ds.sync' (d.add (entRecs fr l).flatten)).2 ≠ 0 then ((Ds.sync' (d.add (entRecs fr l).flatten)).1, S, (Ds.sync' (d.add (entRecs fr l).flatten)).2) else
    ((Ds.sync' (d.add (entRecs fr l).flatten)).1, ⟨S.hard, ⟨S.log.base, S.log.bterm, S.log.conf, S.log.l.take (fr - S.log.base - 1) ++ l⟩, S.image⟩, 0) from rfl)
  have HRA := hid (show rApp S fr l = if fr ≤ S.log.base ∨ S.log.base + S.log.l.length + 1 < fr ∨ anyBad l = true then (S, false) else
    if l = [] then (S, decide (fr = S.log.base + S.log.l.length + 1)) else
    (⟨S.hard, ⟨S.log.base, S.log.bterm, S.log.conf, S.log.l.take (fr - S.log.base - 1) ++ l⟩, S.image⟩, true) from rfl)
  clear h h1 hcc hcl hv he hjl hpl hG
  go_enter Tryz.func60, Tryz.ntmps60
  go_wp2_with fail
  refine Calls.mono HAP.out ?_
  rintro e w1 ⟨⟨vl1, rfl, hc1⟩, hb1⟩
  obtain ⟨a1, k1, rfl⟩ := hc1.form
  have HC1 := hid hc1
  have H1 := hid (H.out.below hb1)
  have HV1 := hid (HV.out.below hb1)
  have HT1 : Hid (Turn [j, p] W w1) := hid ((Turn.below (F := []) hb1).mono (by simp))
  have HG1 : Hid (∀ b ∈ j :: p :: G, b < w1.heap.size) := fun b hb => Nat.lt_of_lt_of_le (HGD.out b hb) hb1.size
  have HZ1 : Hid (W.heap.size ≤ w1.heap.size) := hb1.size
  clear hc1 hb1 c1 c2 c3 c4 c5 c6 c7 c8 HAP
  generalize hra : rApp S fr l = q at *
  obtain ⟨S1, ok⟩ := q
  simp only at HC1 ⊢
  have HK1 := hid (heap_alloc_new w1 (.cells toldZ 51))
  have HK2 := hid (setRow_heap _ _ _ (toldCells S1 (.slice ac S.log.conf.length cc) (.slice a1 S1.log.l.length k1)) _ (0, 0) HK1.out)
  have HB2 : Hid (Below w1.heap.size w1 ((w1.alloc (.cells toldZ 51)).setRow w1.heap.size (toldCells S1 (.slice ac S.log.conf.length cc) (.slice a1 S1.log.l.length k1)))) := hid (below_row ((Below.refl _ _).alloc (Nat.le_refl _) _) (Nat.le_refl _) _)
  have HTT2 := hid (HT1.out.trans ((Turn.below (F := []) HB2.out).mono (G := [j, p]) (by simp)) (fun b hb => .inl hb))
  cases ok
  · as_aux_lemma =>
    have HR := hid (show jAppend d S fr l = (d, S, 1) by
      have h0 := HRA.out
      rw [HJ.out]
      by_cases hb : fr ≤ S.log.base ∨ S.log.base + S.log.l.length + 1 < fr ∨ anyBad l = true
      · rw [if_pos hb]
      · rw [if_neg hb] at h0 ⊢
        by_cases hl0 : l = []
        · rw [if_pos hl0] at h0 ⊢
          have h2 := congrArg Prod.snd h0
          simp only at h2
          rw [if_neg (of_decide_eq_false h2.symm)]
        · rw [if_neg hl0] at h0
          have h2 := congrArg Prod.snd h0
          cases h2)
    go_wp2_with (refine wpList_store_row rfl 51 _ _ rfl w1.heap.size (toldCells S1 (.slice ac S.log.conf.length cc) (.slice a1 S1.log.l.length k1)) (by rfl) (by rfl) 51 _ HK1.out sizeTold rfl (by simp [toldCells, Value.oneCell']) ?_)
    go_ret
    rw [HR.out]
    exact ⟨rfl, H1.out.below HB2.out, HTT2.out⟩
  by_cases hl0 : l = []
  · as_aux_lemma =>
    subst hl0
    have HR := hid (show jAppend d S fr [] = (d, S, 0) by
      have h0 := HRA.out
      rw [HJ.out]
      by_cases hb : fr ≤ S.log.base ∨ S.log.base + S.log.l.length + 1 < fr ∨ anyBad [] = true
      · rw [if_pos hb] at h0
        have h2 := congrArg Prod.snd h0
        cases h2
      · rw [if_neg hb, if_pos rfl] at h0 ⊢
        have h2 := congrArg Prod.snd h0
        simp only at h2
        rw [if_pos (of_decide_eq_true h2.symm)])
    go_wp2_with (refine wpList_store_row rfl 51 _ _ rfl w1.heap.size (toldCells S1 (.slice ac S.log.conf.length cc) (.slice a1 S1.log.l.length k1)) (by rfl) (by rfl) 51 _ HK1.out sizeTold rfl (by simp [toldCells, Value.oneCell']) ?_)
    go_ret
    rw [HR.out]
    exact ⟨rfl, H1.out.below HB2.out, HTT2.out⟩
  have HR := hid (show (S1 = ⟨S.hard, ⟨S.log.base, S.log.bterm, S.log.conf, S.log.l.take (fr - S.log.base - 1) ++ l⟩, S.image⟩ ∧ (fr ≤ S.log.base + S.log.l.length + 1 ∧ S.log.base < fr ∧ anyBad l = false)) ∧ jAppend d S fr l = if (Ds.sync' (d.add (entRecs fr l).flatten)).2 ≠ 0 then ((Ds.sync' (d.add (entRecs fr l).flatten)).1, S, (Ds.sync' (d.add (entRecs fr l).flatten)).2) else
    ((Ds.sync' (d.add (entRecs fr l).flatten)).1, ⟨S.hard, ⟨S.log.base, S.log.bterm, S.log.conf, S.log.l.take (fr - S.log.base - 1) ++ l⟩, S.image⟩, 0) by
      have h0 := HRA.out
      rw [HJ.out]
      by_cases hb : fr ≤ S.log.base ∨ S.log.base + S.log.l.length + 1 < fr ∨ anyBad l = true
      · rw [if_pos hb] at h0
        have h2 := congrArg Prod.snd h0
        cases h2
      · rw [if_neg hb, if_neg hl0] at h0 ⊢
        simp only [not_or, Bool.not_eq_true] at hb
        exact ⟨⟨congrArg Prod.fst h0, by omega, by omega, hb.2.2⟩, rfl⟩)
  have HNE := hid (entRecs_ne fr hl0)
  have hl1 : 0 < l.length := List.length_pos_iff.2 hl0
  have hl2 : ¬ ((l.length : Int) = 0) := by omega
  have HG := hid (anyBad_false HR.out.1.2.2.2)
  clear HJ HRA hra hl0
  as_aux_lemma =>
  go_wp2_with (refine wpList_store_row rfl 51 _ _ rfl w1.heap.size (toldCells S1 (.slice ac S.log.conf.length cc) (.slice a1 S1.log.l.length k1)) (by rfl) (by rfl) 51 _ HK1.out sizeTold rfl (by simp [toldCells, Value.oneCell']) ?_)
  rw [show #[Value.int IntKind.u64 0, Value.int IntKind.i64 0, Value.int IntKind.u64 0, Value.int IntKind.u64 0, Value.int IntKind.u64 0, Value.slice none 0 0, Value.slice none 0 0, Value.string { data := #[] }] = toldZ from rfl]
  generalize (w1.alloc (.cells toldZ 51)).setRow w1.heap.size (toldCells S1 (.slice ac S.log.conf.length cc) (.slice a1 S1.log.l.length k1)) = W2 at *
  have H2 := hid (H1.out.below HB2.out)
  have HV2 := hid ((HV1.out.below HB2.out).at.2.2)
  have HC2 := hid (HC1.out.below HB2.out)
  have HZ2 : Hid (w1.heap.size ≤ W2.heap.size) := HB2.out.size
  have hKJ : w1.heap.size ∉ [j, p] := fun hm => by
    have h1 := HG1.out j (by simp)
    have h2 := HG1.out p (by simp)
    simp at hm
    omega
  have HKJ := hid hKJ
  have HJP : Hid (j ∉ [p]) := by
    obtain ⟨_, _, _, _, _, _, _, _, _, h8⟩ := H2.out
    exact hid (by simpa using h8)
  clear hKJ HK1 H1 HC1 HV1 HT1
  generalize hblq : ((l.length : Int) == 0) = bl
  obtain rfl : bl = false := by rw [← hblq]; simp only [beq_eq_false_iff_ne, ne_eq]; omega
  clear hblq
  go_loopw [9, 10] (fun sv i wr => ∃ q : Nat, i = .int .i64 q ∧ sv = .string (str (entRecs fr (l.take q)).flatten) ∧ q ≤ l.length ∧ Below W2.heap.size W2 wr) (fun _ i _ => l.length - (intOf i).toNat)
  case atStart => exact ⟨0, rfl, rfl, Nat.zero_le _, Below.refl _ _⟩
  case round =>
  obtain ⟨q, rfl, rfl, hq, hb⟩ := hrel
  have HB := hid hb
  have hfl : (entRecs fr (l.take q)).flatten.length ≤ 70000 * 1000 := by
    have h1 := flatten_le 70000 (entRecs fr (l.take q)) (entRecs_le (l.take q) fr (fun e he => mayEn_data (HG.out e (List.mem_of_mem_take he))))
    have h2 : (entRecs fr (l.take q)).length = (l.take q).length := entRecs_length _ _
    rw [h2, List.length_take] at h1
    have : 70000 * min q l.length ≤ 70000 * 1000 := Nat.mul_le_mul_left _ (by omega)
    omega
  by_cases hlt : q < l.length
  · as_aux_lemma =>
    obtain ⟨b, off, rfl, hcell⟩ := HV2.out (by rw [enVals_len]; omega)
    have hev := enVals_cell l q hlt
    have c0 := hcell wr hb _ _ hev.1
    have c1 := hcell wr hb _ _ hev.2.1
    have c2 := hcell wr hb _ _ hev.2.2
    have HS : Hid ((entRecs fr (l.take (q + 1))).flatten = (entRecs fr (l.take q)).flatten ++ entRec (fr + q) l[q]) := hid (by
      have ht : l.take (q + 1) = l.take q ++ [l[q]] := by rw [List.take_add_one, List.getElem?_eq_getElem hlt]; rfl
      rw [ht, entRecs_snoc, List.flatten_append, List.length_take, Nat.min_eq_left (by omega)]
      simp)
    have hlast := HR.out.1.2.1
    have hbs := HJO.out.2.2.2.1
    have HEQ := hid (rent_any (fr + q) l[q] (by unfold top64; omega) (HE.out _ (List.getElem_mem hlt)).1 (HG.out _ (List.getElem_mem hlt)))
    have hrl := entRec_len (fr + q) l[q] (mayEn_data (HG.out _ (List.getElem_mem hlt)))
    generalize entRec (fr + q) l[q] = rc at *
    generalize l[q] = x at *
    generalize (entRecs fr (l.take q)).flatten = A at *
    have hmul : off + q * 3 = off + 3 * q := by omega
    have hm1 : off + 3 * q + 1 = off + (3 * q + 1) := by omega
    have hm2 : off + 3 * q + 2 = off + (3 * q + 2) := by omega
    have hwq : IntKind.u64.wrap (q : Int) = (q : Int) := by rw [IntKind.wrap_u64]; omega
    have hwf : IntKind.u64.wrap ((fr : Int) + (q : Int)) = ((fr + q : Nat) : Int) := by rw [IntKind.wrap_u64]; omega
    have hza : (str A).size = A.length := str_size _
    have hzr : (str rc).size = rc.length := str_size _
    have hsum : ¬ (9223372036854775807 < A.length + rc.length) := by omega
    have hap : str A ++ str rc = str (A ++ rc) := str_append _ _
    clear hcell hev hb hlast hbs
    go_wp2_with fail
    refine Calls.mono (HEQ.out _) ?_
    rintro e w4 ⟨rfl, hb4⟩
    have HB4 : Hid (Below W2.heap.size W2 w4) := hid (HB.out.trans (hb4.mono HB.out.size))
    clear hb4 c0 c1 c2
    go_wp2_with fail
    go_roundw
    case rel => exact ⟨q + 1, by go_num, by rw [HS.out], by omega, HB4.out⟩
    case measure => simp [intOf]; omega
  obtain rfl : q = l.length := by omega
  rw [List.take_length] at hfl ⊢
  have H3 := hid (H2.out.below hb)
  have HK3 := hid (blk_below HK2.out hb)
  have HC3 := hid (HC2.out.below hb)
  have HT3 := hid (HTT2.out.trans ((Turn.below (F := []) hb).mono (G := [j, p]) (by simp)) (fun b hb => .inl hb))
  have HG3 : Hid (∀ b ∈ j :: G, b < wr.heap.size) := fun b hb' => by
    have h1 := HGG.out b hb'
    have h2 := HZ1.out
    have h3 := HZ2.out
    have h4 := hb.size
    omega
  obtain ⟨vc3, vl3, g1, _, _⟩ := H3.out.cells
  have e0 := cell_in g1 0 (.pointer (some ⟨p, 0, none⟩)) rfl
  clear g1 hb hlt hq HB H2 HK2 HC2 HTT2 HV2 HB2 HGG
  have HNE2 := HNE
  have HRR := hid HR.out.2
  have HS1 := hid HR.out.1.1
  have HFR := hid HR.out.1.2
  clear HR HNE
  generalize hRR : (entRecs fr l).flatten = R at *
  as_aux_lemma =>
  go_wp2_with fail
  refine Calls.mono (rputa_any H3.out.rd hok hn HG3.out R (by omega) HNE2.out) ?_
  rintro e w4 ⟨rfl, hd4, ht4⟩
  have H4 := hid (H3.out.disk hd4 ht4)
  have HK4 := hid ((ht4.block (Array.getElem?_eq_some_iff.1 HK3.out).1 (fun hm => HKJ.out (by simp at hm; simp [hm]))).trans HK3.out)
  have HC4 := hid (HC3.out.besides (G' := j :: p :: G) (ht4.mono (by simp)) (fun b hb => .inl hb))
  have HT4 := hid (HT3.out.trans (ht4.mono (G := [j, p]) (by simp)) (fun b hb => .inl hb))
  clear hd4 ht4 e0 H3 HK3 HC3 HT3
  generalize hqq : Ds.sync' (d.add R) = q3 at *
  obtain ⟨d3, e4⟩ := q3
  simp only at H4 HRR ⊢
  by_cases he4 : e4 = 0
  · subst he4
    have HR4 := hid (HRR.out.trans (if_neg (by simp)))
    have hs1 := HS1.out
    obtain ⟨L1, hL1⟩ : ∃ L1, L1 = S.log.l.take (fr - S.log.base - 1) ++ l := ⟨_, rfl⟩
    rw [← hL1] at hs1 HR4
    have HL1 := hid hL1
    have hl4 : L1.length ≤ 1000000 := by rw [hL1, List.length_append, List.length_take]; omega
    clear hL1 HRR HS1
    subst hs1
    have HJK := hid H4.out
    obtain ⟨vc4, vl4, g1, hcc4, hcl4⟩ := H4.out.cells
    obtain ⟨ac4, cc4, rfl⟩ := hcc4.form
    obtain ⟨al4, cl4, rfl⟩ := hcl4.form
    have HG1' := hid g1
    have HTH : Hid (w4.there j 1 8) := hid (fun k hk => ⟨by
      have h9 : 1 + k < (rjCells p S (.slice ac4 S.log.conf.length cc4) (.slice al4 S.log.l.length cl4)).size := by show 1 + k < 9; omega
      rw [cell_in g1 (1 + k) _ (Array.getElem?_eq_getElem h9)]
      rfl, free_in g1 _⟩)
    have HKT : Hid (w4.heap[w1.heap.size]? = some (.cells #[.int .u64 S.hard.term, .int .i64 S.hard.vote, .int .u64 S.hard.life, .int .u64 S.log.base, .int .u64 S.log.bterm, .slice ac S.log.conf.length cc, .slice a1 L1.length k1, .string (str S.image)] 51)) := HK4.out
    have HST := hid (set_rstate (S' := ⟨S.hard, ⟨S.log.base, S.log.bterm, S.log.conf, L1⟩, S.image⟩) (vc' := .slice ac S.log.conf.length cc) (vl' := .slice a1 L1.length k1) g1)
    have HCC := hid (H.out.cells)
    clear g1 hqq hcc4 hcl4
    go_wp2_with (first
      | (refine wpList_load_row rfl 51 _ rfl w1.heap.size (by rfl) 51 _ (0, 0) _ HKT.out Tryz.underlying51 rfl sizeTold ?_)
      | (refine wpList_store_mid rfl 51 _ _ rfl j 1 #[.int .u64 S.hard.term, .int .i64 S.hard.vote, .int .u64 S.hard.life, .int .u64 S.log.base, .int .u64 S.log.bterm, .slice ac S.log.conf.length cc, .slice a1 L1.length k1, .string (str S.image)] (by rfl) (by rfl) HTH.out sizeTold (by simp [Value.oneCell']) ?_))
    go_ret
    rw [HR4.out]
    obtain ⟨t, hk⟩ := HST.out
    refine ⟨rfl, HJK.out.restate t hk ?_ ?_ ⟨HJO.out.1, HJO.out.2.1, HJO.out.2.2.1, HJO.out.2.2.2.1, HJO.out.2.2.2.2.1, HJO.out.2.2.2.2.2.1, fun e he => ?_, HJO.out.2.2.2.2.2.2.2⟩ hl4, HT4.out.trans (t.mono (by simp)) (fun b h => .inl h)⟩
    · exact (HCC0.out.besides (HT4.out.mono (by intro b hb; simp at hb; rcases hb with rfl | rfl <;> simp)) (fun b hb => .inl hb)).besides (t.mono (by simp)) (fun b hb => .inl hb)
    · exact HC4.out.besides (t.mono (by simp)) (fun b hb => .inl hb)
    · rw [HL1.out] at he
      rcases List.mem_append.1 he with he | he
      · exact HJO.out.2.2.2.2.2.2.1 e (List.mem_of_mem_take he)
      · exact ⟨(HE.out e he).1, HG.out e he⟩
  · have HR4 := hid (HRR.out.trans (if_pos he4))
    have h1 : ((e4 : Int) == 0) = false := by simp only [beq_eq_false_iff_ne, ne_eq]; omega
    have h2 : ¬ ((e4 : Int) = 0) := by omega
    clear he4 hqq
    go_wp2_with fail
    go_ret
    rw [HR4.out]
    exact ⟨rfl, H4.out, HT4.out⟩
end Go.Proofs.YtmehcogaopackaaGreat
