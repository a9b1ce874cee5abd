/-
  The walk of the reference's Save. (Several texts in one.)
-/
import Derived.Test.YtmehcogaopackaaGreatZDisk4
import Derived.Test.YtmehcogaopackaaGreatZFile
import Derived.Test.YtmehcogaopackaaGreatJOpen1
import Derived.Test.YtmehcogaopackaaGreatJSave
/- The reference's put; a journal of the reference as it lies in memory. -/
namespace Go.Proofs.YtmehcogaopackaaGreat
open Go.RowKit
set_option linter.unusedVariables false
set_option linter.unusedSimpArgs false
theorem ds_sync' {q : Ds × Nat} (h : q.2 ≠ 0) : Ds.sync' q = q := by unfold Ds.sync'; rw [if_pos h]
theorem ds_sync0 {d : Ds} : Ds.sync' (d, 0) = d.sync := rfl
set_option maxHeartbeats 1000000 in
theorem rput_any {G : List Nat} {W : World} {p : Nat} {d : Ds} (h : RdAt G W p d) {n : Nat} (hok : d.Ok n) (hn : n ≤ 900000) (hG : ∀ b ∈ G, b < W.heap.size) (s : Bytes) (hs : s.length ≤ 549755813888) :
    Calls Tryz.prog 51 #[.pointer (some ⟨p, 0, none⟩), .int .i64 2, .string (str s)] W fun e w' => e = .returned (.int .i64 ((Ds.sync' (d.puts s)).2 : Nat)) ∧ RdAt G w' p (Ds.sync' (d.puts s)).1 ∧ Turn [p] W w' := by
  have HT := hid (rturn_put h hok.1 hG (by have := hok.2; omega) s hs)
  have HO := hid (hok.puts s)
  generalize d.puts s = q at *
  obtain ⟨d1, e1⟩ := q
  simp only at HT HO
  by_cases he : e1 = 0
  · subst he
    rw [ds_sync0]
    go_enter Tryz.func51, Tryz.ntmps51
    go_wp2_with fail
    refine Calls.mono HT.out ?_
    rintro e w1 ⟨rfl, hd1, ht1⟩
    have HS := hid (rsync_any hd1 HO.out.1.1)
    have HT1 := hid ht1
    clear hd1 ht1
    go_wp2_with fail
    refine Calls.mono HS.out ?_
    rintro e w2 ⟨rfl, hd2, ht2⟩
    have HD2 := hid hd2
    have HT2 := hid (HT1.out.trans ht2 (fun b hb => .inl hb))
    clear hd2 ht2
    go_wp2_with fail
    go_ret
    exact ⟨rfl, HD2.out, HT2.out⟩
  · rw [ds_sync' he]
    have h1 : ((e1 : Int) != 0) = true := by simp only [bne_iff_ne, ne_eq]; omega
    have h2 : ¬ ((e1 : Int) = 0) := by omega
    clear he
    go_enter Tryz.func51, Tryz.ntmps51
    go_wp2_with fail
    refine Calls.mono HT.out ?_
    rintro e w1 ⟨rfl, hd1, ht1⟩
    have HD1 := hid hd1
    have HT1 := hid ht1
    clear hd1 ht1
    go_wp2_with fail
    go_ret
    exact ⟨rfl, HD1.out, HT1.out⟩
set_option maxHeartbeats 1000000 in
theorem rputa_any {G : List Nat} {W : World} {p : Nat} {d : Ds} (h : RdAt G W p d) {n : Nat} (hok : d.Ok n) (hn : n ≤ 900000) (hG : ∀ b ∈ G, b < W.heap.size) (s : Bytes) (hs : s.length ≤ 549755813888) (hse : s ≠ []) :
    Calls Tryz.prog 51 #[.pointer (some ⟨p, 0, none⟩), .int .i64 1, .string (str s)] W fun e w' => e = .returned (.int .i64 ((Ds.sync' (d.add s)).2 : Nat)) ∧ RdAt G w' p (Ds.sync' (d.add s)).1 ∧ Turn [p] W w' := by
  have HT := hid (rturn_add h hok.1 hG (by have := hok.2; omega) s hs hse)
  have HO := hid (hok.add s)
  generalize d.add s = q at *
  obtain ⟨d1, e1⟩ := q
  simp only at HT HO
  by_cases he : e1 = 0
  · subst he
    rw [ds_sync0]
    go_enter Tryz.func51, Tryz.ntmps51
    go_wp2_with fail
    refine Calls.mono HT.out ?_
    rintro e w1 ⟨rfl, hd1, ht1⟩
    have HS := hid (rsync_any hd1 HO.out.1.1)
    have HT1 := hid ht1
    clear hd1 ht1
    go_wp2_with fail
    refine Calls.mono HS.out ?_
    rintro e w2 ⟨rfl, hd2, ht2⟩
    have HD2 := hid hd2
    have HT2 := hid (HT1.out.trans ht2 (fun b hb => .inl hb))
    clear hd2 ht2
    go_wp2_with fail
    go_ret
    exact ⟨rfl, HD2.out, HT2.out⟩
  · rw [ds_sync' he]
    have h1 : ((e1 : Int) != 0) = true := by simp only [bne_iff_ne, ne_eq]; omega
    have h2 : ¬ ((e1 : Int) = 0) := by omega
    clear he
    go_enter Tryz.func51, Tryz.ntmps51
    go_wp2_with fail
    refine Calls.mono HT.out ?_
    rintro e w1 ⟨rfl, hd1, ht1⟩
    have HD1 := hid hd1
    have HT1 := hid ht1
    clear hd1 ht1
    go_wp2_with fail
    go_ret
    exact ⟨rfl, HD1.out, HT1.out⟩
/-- the cells of a journal of the reference -/
def rjCells (p : Nat) (S : Js) (vc vl : Value) : Array Value := #[.pointer (some ⟨p, 0, none⟩), .int .u64 S.hard.term, .int .i64 S.hard.vote, .int .u64 S.hard.life, .int .u64 S.log.base, .int .u64 S.log.bterm, vc, vl, .string (str S.image)]
/-- the reference's journal lies in block j, its disk in block p; none of it lies in G -/
def RjAt (G : List Nat) (W : World) (j p : Nat) (d : Ds) (S : Js) : Prop :=
  ∃ vc vl, W.heap[j]? = some (.cells (rjCells p S vc vl) 54) ∧ RdAt (j :: G) W p d ∧ Cells (j :: p :: G) W vc S.log.conf.length (intVals S.log.conf) ∧ Cells (j :: p :: G) W vl S.log.l.length (enVals S.log.l) ∧ JsOk S ∧ S.log.l.length ≤ 1000000 ∧ j ∉ G ∧ j ≠ p
theorem RjAt.jlt {G : List Nat} {W : World} {j p : Nat} {d : Ds} {S : Js} (h : RjAt G W j p d S) : j < W.heap.size := by
  obtain ⟨vc, vl, h1, _⟩ := h
  exact (Array.getElem?_eq_some_iff.1 h1).1
theorem RjAt.rd {G : List Nat} {W : World} {j p : Nat} {d : Ds} {S : Js} (h : RjAt G W j p d S) : RdAt (j :: G) W p d := by
  obtain ⟨vc, vl, h1, h2, _⟩ := h
  exact h2
theorem RjAt.ok {G : List Nat} {W : World} {j p : Nat} {d : Ds} {S : Js} (h : RjAt G W j p d S) : JsOk S ∧ S.log.l.length ≤ 1000000 := by
  obtain ⟨vc, vl, h1, h2, h3, h4, h5, h6, _⟩ := h
  exact ⟨h5, h6⟩
theorem RjAt.cells {G : List Nat} {W : World} {j p : Nat} {d : Ds} {S : Js} (h : RjAt G W j p d S) : ∃ vc vl, W.heap[j]? = some (.cells (rjCells p S vc vl) 54) ∧ Cells (j :: p :: G) W vc S.log.conf.length (intVals S.log.conf) ∧ Cells (j :: p :: G) W vl S.log.l.length (enVals S.log.l) := by
  obtain ⟨vc, vl, h1, h2, h3, h4, _⟩ := h
  exact ⟨vc, vl, h1, h3, h4⟩
theorem RdAt.sub {G G' : List Nat} {W : World} {p : Nat} {d : Ds} (h : RdAt G W p d) (hG : ∀ b ∈ G', b ∈ G) : RdAt G' W p d := by
  obtain ⟨vs, vl, vp, h1, h2, h3, h4, h5⟩ := h
  have hs : ∀ b ∈ p :: G', b ∈ p :: G := fun b hb => by
    rcases List.mem_cons.1 hb with rfl | hb
    · exact List.mem_cons_self ..
    · exact List.mem_cons_of_mem _ (hG b hb)
  exact ⟨vs, vl, vp, h1, h2.sub hs, h3.sub hs, h4.sub hs, fun hm => h5 (hG p hm)⟩
/-- what turns the blocks G leaves it as it is -/
theorem RjAt.besides {G G' : List Nat} {W W' : World} {j p : Nat} {d : Ds} {S : Js} (h : RjAt G W j p d S) (t : Turn G W W') (hG : ∀ b ∈ G', b ∈ G ∨ W.heap.size ≤ b) : RjAt G' W' j p d S := by
  have hlt := h.jlt
  have hplt := h.rd.lt
  obtain ⟨vc, vl, h1, h2, h3, h4, h5, h6, h7, h8⟩ := h
  have e1 : ∀ b ∈ j :: G', b ∈ j :: G ∨ W.heap.size ≤ b := fun b hb => by
    rcases List.mem_cons.1 hb with rfl | hb
    · exact .inl (List.mem_cons_self ..)
    · rcases hG b hb with h | h
      · exact .inl (List.mem_cons_of_mem _ h)
      · exact .inr h
  have e2 : ∀ b ∈ j :: p :: G', b ∈ j :: p :: G ∨ W.heap.size ≤ b := fun b hb => by
    rcases List.mem_cons.1 hb with rfl | hb
    · exact .inl (List.mem_cons_self ..)
    · rcases List.mem_cons.1 hb with rfl | hb
      · exact .inl (by simp)
      · rcases hG b hb with h | h
        · exact .inl (by simp [h])
        · exact .inr h
  have t1 : Turn (j :: G) W W' := t.mono fun b hb => List.mem_cons_of_mem _ hb
  have t2 : Turn (j :: p :: G) W W' := t.mono fun b hb => by simp [hb]
  refine ⟨vc, vl, (t.block hlt h7).trans h1, h2.besides t1 e1, h3.besides t2 e2, h4.besides t2 e2, h5, h6, fun hm => ?_, h8⟩
  rcases hG j hm with h | h
  · exact h7 h
  · omega
theorem RjAt.below {G : List Nat} {W W' : World} {j p : Nat} {d : Ds} {S : Js} (h : RjAt G W j p d S) (hb : Below W.heap.size W W') : RjAt G W' j p d S := h.besides (.below hb) fun b hb => .inl hb
/-- a call of its disk -/
theorem RjAt.disk {G : List Nat} {W W' : World} {j p : Nat} {d d' : Ds} {S : Js} (h : RjAt G W j p d S) (h' : RdAt (j :: G) W' p d') (t : Turn [p] W W') : RjAt G W' j p d' S := by
  have hlt := h.jlt
  obtain ⟨vc, vl, h1, h2, h3, h4, h5, h6, h7, h8⟩ := h
  have t2 : Turn (j :: p :: G) W W' := t.mono fun b hb => by simp [List.mem_singleton.1 hb]
  exact ⟨vc, vl, (t.block hlt (by simpa using h8)).trans h1, h', h3.besides t2 (fun b hb => .inl hb), h4.besides t2 (fun b hb => .inl hb), h5, h6, h7, h8⟩
end Go.Proofs.YtmehcogaopackaaGreat
/- The walk of the reference's Save. -/
namespace Go.Proofs.YtmehcogaopackaaGreat
open Go.RowKit
set_option linter.unusedVariables false
set_option linter.unusedSimpArgs false
theorem hardRec_ne (h : Hd) : hardRec h ≠ [] := by
  intro e
  have h1 := congrArg List.length e
  unfold hardRec at h1
  rw [frame_length, List.length_nil] at h1
  omega
theorem RjAt.hard {G : List Nat} {W : World} {j p : Nat} {d : Ds} {S : Js} (h : RjAt G W j p d S) (x : Hd) (hx : JsOk ⟨x, S.log, S.image⟩) : RjAt G (((W.setCell ⟨j, 1, none⟩ (.int .u64 x.term)).setCell ⟨j, 2, none⟩ (.int .i64 x.vote)).setCell ⟨j, 3, none⟩ (.int .u64 x.life)) j p d ⟨x, S.log, S.image⟩ := by
  obtain ⟨vc, vl, h1, h2, h3, h4, h5, h6, h7, h8⟩ := h
  have t : Turn [j] W (((W.setCell ⟨j, 1, none⟩ (.int .u64 x.term)).setCell ⟨j, 2, none⟩ (.int .i64 x.vote)).setCell ⟨j, 3, none⟩ (.int .u64 x.life)) :=
    ((Turn.set W j 1 _ (by simp)).trans (Turn.set _ j 2 _ (by simp)) (fun b h => .inl h)).trans (Turn.set _ j 3 _ (by simp)) (fun b h => .inl h)
  have hb : ((((W.setCell ⟨j, 1, none⟩ (.int .u64 x.term)).setCell ⟨j, 2, none⟩ (.int .i64 x.vote)).setCell ⟨j, 3, none⟩ (.int .u64 x.life))).heap[j]? = some (.cells (rjCells p ⟨x, S.log, S.image⟩ vc vl) 54) := heap_set (heap_set (heap_set h1 1 _) 2 _) 3 _
  have t1 : Turn (j :: G) W (((W.setCell ⟨j, 1, none⟩ (.int .u64 x.term)).setCell ⟨j, 2, none⟩ (.int .i64 x.vote)).setCell ⟨j, 3, none⟩ (.int .u64 x.life)) := t.mono (by simp)
  have t2 : Turn (j :: p :: G) W (((W.setCell ⟨j, 1, none⟩ (.int .u64 x.term)).setCell ⟨j, 2, none⟩ (.int .i64 x.vote)).setCell ⟨j, 3, none⟩ (.int .u64 x.life)) := t.mono (by simp)
  exact ⟨vc, vl, hb, h2.besides t1 (fun b hb => .inl hb), h3.besides t2 (fun b hb => .inl hb), h4.besides t2 (fun b hb => .inl hb), hx, h6, h7, h8⟩
/-- the journal's cells, and the box of the term and the vote -/
def RvAt (j bk : Nat) (jc hc : Array Value) (W : World) : Prop := W.heap[j]? = some (.cells jc 54) ∧ W.heap[bk]? = some (.cells hc 45)
theorem RvAt.turn {j bk : Nat} {jc hc : Array Value} {W W' : World} (h : RvAt j bk jc hc W) {F : List Nat} (t : Turn F W W') (h1 : j ∉ F) (h2 : bk ∉ F) : RvAt j bk jc hc W' :=
  ⟨(t.block (Array.getElem?_eq_some_iff.1 h.1).1 h1).trans h.1, (t.block (Array.getElem?_eq_some_iff.1 h.2).1 h2).trans h.2⟩
set_option maxRecDepth 100000 in
set_option maxHeartbeats 4000000 in
theorem rsave_any {G : List Nat} {W : World} {j p : Nat} {d : Ds} {S : Js} (h : RjAt G W j p d S) {n : Nat} (hok : d.Ok n) (hn : n ≤ 900000) (hG : ∀ b ∈ G, b < W.heap.size) (term : Nat) (vote : Int) (life : Nat) (ht : term < top64) :
    Calls Tryz.prog 59 #[.pointer (some ⟨j, 0, none⟩), .agg #[.int .u64 term, .int .i64 vote, .int .u64 life]] W fun e W' => e = .returned (.int .i64 ((jSave d S ⟨term, vote, life⟩).2.2 : Nat)) ∧ RjAt G W' j p (jSave d S ⟨term, vote, life⟩).1 (jSave d S ⟨term, vote, life⟩).2.1 ∧ Turn [j, p] W W' := by
  have hb0 := boxHard W #[.int .u64 term, .int .i64 vote, .int .u64 life]
  have hk0 := heap_alloc_new W (.cells #[.int .u64 term, .int .i64 vote, .int .u64 life] 45)
  have HB0 := hid hb0
  have HK0 := hid hk0
  have H := hid h
  have hjl := h.jlt
  have hpl := h.rd.lt
  have HGG : Hid (∀ b ∈ j :: G, b < W.heap.size) := fun b hb => by
    rcases List.mem_cons.1 hb with rfl | hb
    · exact hjl
    · exact hG b hb
  clear h hb0 hk0 hG
  by_cases hv : vote < 0 ∨ 5 < vote
  · have HJ := hid (show jSave d S ⟨term, vote, life⟩ = (d, S, 1) from if_pos hv)
    have c1 := cell_in HK0.out 1 (.int .i64 vote) rfl
    rcases hv with hv | hv
    · go_enter Tryz.func59, Tryz.ntmps59
      go_wp2_with fail
      go_ret
      rw [HJ.out]
      exact ⟨rfl, H.out.below HB0.out, (Turn.below (F := []) HB0.out).mono (by simp)⟩
    · have hv2 : ¬ (vote < 0) := by omega
      go_enter Tryz.func59, Tryz.ntmps59
      go_wp2_with fail
      go_ret
      rw [HJ.out]
      exact ⟨rfl, H.out.below HB0.out, (Turn.below (F := []) HB0.out).mono (by simp)⟩
  · have hv1 : ¬ (vote < 0) := by omega
    have hv2 : ¬ (5 < vote) := by omega
    have HJ := hid (show jSave d S ⟨term, vote, life⟩ = if (⟨term, vote, S.hard.life⟩ : Hd) = S.hard then (d, S, 0) else
      if (Ds.sync' (d.add (hardRec ⟨term, vote, S.hard.life⟩))).2 ≠ 0 then ((Ds.sync' (d.add (hardRec ⟨term, vote, S.hard.life⟩))).1, S, (Ds.sync' (d.add (hardRec ⟨term, vote, S.hard.life⟩))).2) else
      ((Ds.sync' (d.add (hardRec ⟨term, vote, S.hard.life⟩))).1, ⟨⟨term, vote, S.hard.life⟩, S.log, S.image⟩, 0) from if_neg hv)
    obtain ⟨vc, vl, h1, _, _⟩ := H.out.cells
    have h2 := blk_below h1 HB0.out
    have b0 := cell_in HK0.out 0 (.int .u64 term) rfl
    have b1 := cell_in HK0.out 1 (.int .i64 vote) rfl
    have b2 := cell_in HK0.out 2 (.int .u64 life) rfl
    have g2 := free_in HK0.out 2
    have c0 := cell_in h2 0 (.pointer (some ⟨p, 0, none⟩)) rfl
    have c1 := cell_in h2 1 (.int .u64 S.hard.term) rfl
    have c2 := cell_in h2 2 (.int .i64 S.hard.vote) rfl
    have c3 := cell_in h2 3 (.int .u64 S.hard.life) rfl
    clear h1 h2
    go_enter Tryz.func59, Tryz.ntmps59
    go_wp2_with fail
    clear b0 b1 b2 g2 c0 c1 c2 c3
    have hb1 := boxHard W #[.int .u64 term, .int .i64 vote, .int .u64 S.hard.life]
    have hk1 := heap_alloc_new W (.cells #[.int .u64 term, .int .i64 vote, .int .u64 S.hard.life] 45)
    generalize W.alloc (.cells #[.int .u64 term, .int .i64 vote, .int .u64 S.hard.life] 45) = W1 at *
    have h1 := H.out.below hb1
    have HH1 := hid h1
    have HB1 := hid hb1
    have HT1 : Hid (Turn [j, p] W W1) := hid ((Turn.below (F := []) hb1).mono (by simp))
    have HK1 := hid hk1
    obtain ⟨vc, vl, g1, _, _⟩ := h1.cells
    have HG1 := hid g1
    have HJO := hid h1.ok.1
    have b0 : W1.drew.cell? ⟨W.heap.size, 0, none⟩ = some (.int .u64 term) := cell_in (w := W1.drew) HK1.out 0 _ rfl
    have b1 : W1.drew.cell? ⟨W.heap.size, 1, none⟩ = some (.int .i64 vote) := cell_in (w := W1.drew) HK1.out 1 _ rfl
    have b2 : W1.drew.cell? ⟨W.heap.size, 2, none⟩ = some (.int .u64 S.hard.life) := cell_in (w := W1.drew) HK1.out 2 _ rfl
    have c0 : W1.drew.cell? ⟨j, 0, none⟩ = some (.pointer (some ⟨p, 0, none⟩)) := cell_in (w := W1.drew) HG1.out 0 _ rfl
    have c1 : W1.drew.cell? ⟨j, 1, none⟩ = some (.int .u64 S.hard.term) := cell_in (w := W1.drew) HG1.out 1 _ rfl
    have c2 : W1.drew.cell? ⟨j, 2, none⟩ = some (.int .i64 S.hard.vote) := cell_in (w := W1.drew) HG1.out 2 _ rfl
    have c3 : W1.drew.cell? ⟨j, 3, none⟩ = some (.int .u64 S.hard.life) := cell_in (w := W1.drew) HG1.out 3 _ rfl
    have hzz : W.heap.size < W1.heap.size := (Array.getElem?_eq_some_iff.1 hk1).1
    have HGG1 : Hid (∀ b ∈ j :: G, b < W1.heap.size) := fun b hb => by have := HGG.out b hb; omega
    clear g1 hb1 hk1 h1
    generalize hbk : W.heap.size = bk at *
    have HPB : Hid (p < bk ∧ j < bk) := hid ⟨hpl, hjl⟩
    have hq : ∀ w : World, (binOp BinOp.eql 45 (.agg #[.int .u64 term, .int .i64 vote, .int .u64 S.hard.life]) (.agg #[.int .u64 S.hard.term, .int .i64 S.hard.vote, .int .u64 S.hard.life])).run Tryz.prog w = .ok (.bool (decide ((⟨term, vote, S.hard.life⟩ : Hd) = S.hard))) w := fun w => by
      obtain ⟨⟨t', v', l'⟩, _, _⟩ := S
      simp only [Hd.mk.injEq]
      go_simp
      by_cases e1 : term = t'
      · by_cases e2 : vote = v'
        · simp [e1, e2]
        · simp [e1, e2]
      · have : ¬ ((term : Int) = (t' : Int)) := by omega
        simp [e1, this]
    generalize hqd : decide ((⟨term, vote, S.hard.life⟩ : Hd) = S.hard) = q at *
    clear hpl hjl
    go_region
    cases q
    · have HJ1 := hid (HJ.out.trans (if_neg (of_decide_eq_false hqd)))
      have hrl := hardRec_len ⟨term, vote, S.hard.life⟩
      have HNE := hid (hardRec_ne ⟨term, vote, S.hard.life⟩)
      have hE1 : RvAt j bk (rjCells p S vc vl) #[.int .u64 term, .int .i64 vote, .int .u64 S.hard.life] W1.drew.drew := ⟨HG1.out, HK1.out⟩
      have HCO : Hid (∀ W' : World, RvAt j bk (rjCells p S vc vl) #[.int .u64 term, .int .i64 vote, .int .u64 S.hard.life] W' → W'.cell? ⟨j, 0, none⟩ = some (.pointer (some ⟨p, 0, none⟩)) ∧ W'.cell? ⟨bk, 0, none⟩ = some (.int .u64 term) ∧ W'.cell? ⟨bk, 1, none⟩ = some (.int .i64 vote) ∧ W'.cell? ⟨bk, 2, none⟩ = some (.int .u64 S.hard.life)) :=
        fun W' h => ⟨cell_in h.1 0 _ rfl, cell_in h.2 0 _ rfl, cell_in h.2 1 _ rfl, cell_in h.2 2 _ rfl⟩
      have HNP : Hid (j ∉ [p] ∧ bk ∉ [p]) := by
        obtain ⟨vc', vl', k1, k2, k3, k4, k5, k6, k7, k8⟩ := HH1.out
        have := HPB.out
        exact ⟨by simpa using k8, by simp; omega⟩
      clear hq hqd HJ b0 b1 b2 c0 c1 c2 c3
      go_wp2_with fail
      go_region_held3 (fun W' => W'.cell? ⟨j, 0, none⟩ = some (.pointer (some ⟨p, 0, none⟩)) ∧ W'.cell? ⟨bk, 0, none⟩ = some (.int .u64 term) ∧ W'.cell? ⟨bk, 1, none⟩ = some (.int .i64 vote) ∧ W'.cell? ⟨bk, 2, none⟩ = some (.int .u64 S.hard.life)) (exact HCO.out _ (by assumption))
        (first
        | (go_at_call 53; refine Calls.mono (rhard_any ⟨term, vote, S.hard.life⟩ ht ⟨by simp only; omega, by simp only; omega⟩ HJO.out.2.2.1 _) ?_; rintro e w2 ⟨rfl, hb2⟩; have HB2 : Hid (Below W1.heap.size W1 w2) := ⟨hb2.os, hb2.tape, hb2.output, hb2.size, hb2.block⟩; have hE2 := hE1.turn (.below (F := []) hb2) (by simp) (by simp); have HR2 := hid (HH1.out.below HB2.out); clear hb2)
        | (go_at_call 51; refine Calls.mono (rputa_any HR2.out.rd hok hn (fun b hb => Nat.lt_of_lt_of_le (HGG1.out b hb) HB2.out.size) _ (by omega) HNE.out) ?_; rintro e w4 ⟨rfl, hd4, ht4⟩; have hE4 := hE2.turn ht4 HNP.out.1 HNP.out.2; have HR4 := hid (HR2.out.disk hd4 ht4); have HT4 := hid (((Turn.below (F := []) HB2.out).mono (G := [j, p]) (by simp)).trans (ht4.mono (G := [j, p]) (by simp)) (fun b hb => .inl hb)); clear hd4 ht4))
      have HTT : Hid (Turn [j, p] W w4) := hid (HT1.out.trans HT4.out (fun b hb => .inl hb))
      have HE4 := hid (HCO.out _ hE4)
      have HC4 := hid hE4
      clear hE1 hE2 hE4 HR2 HB2 HT4
      generalize hqq : Ds.sync' (d.add (hardRec ⟨term, vote, S.hard.life⟩)) = q3 at *
      obtain ⟨d3, e4⟩ := q3
      simp only at HR4 HJ1 ⊢
      by_cases he4 : e4 = 0
      · subst he4
        have HJ2 := hid (HJ1.out.trans (if_neg (by simp)))
        have n1 := cell_in HC4.out.1 1 (.int .u64 S.hard.term) rfl
        have n2 := cell_in HC4.out.1 2 (.int .i64 S.hard.vote) rfl
        have n3 := cell_in HC4.out.1 3 (.int .u64 S.hard.life) rfl
        have u1 := free_in HC4.out.1 1
        have u2 := free_in HC4.out.1 2
        have u3 := free_in HC4.out.1 3
        have a0 := HE4.out.2.1
        have a1 := HE4.out.2.2.1
        have a2 := HE4.out.2.2.2
        have HJ3 : Hid (JsOk ⟨⟨term, vote, S.hard.life⟩, S.log, S.image⟩) := ⟨ht, ⟨by simp only; omega, by simp only; omega⟩, HJO.out.2.2.1, HJO.out.2.2.2⟩
        clear HJ1 hqq
        go_wp2_with fail
        go_ret
        rw [HJ2.out]
        have t : Turn [j, p] w4 (((w4.setCell ⟨j, 1, none⟩ (.int .u64 term)).setCell ⟨j, 2, none⟩ (.int .i64 vote)).setCell ⟨j, 3, none⟩ (.int .u64 S.hard.life)) :=
          ((Turn.set w4 j 1 _ (by simp)).trans (Turn.set _ j 2 _ (by simp)) (fun b h => .inl h)).trans (Turn.set _ j 3 _ (by simp)) (fun b h => .inl h)
        exact ⟨rfl, HR4.out.hard ⟨term, vote, S.hard.life⟩ HJ3.out, HTT.out.trans t (fun b h => .inl h)⟩
      · have HJ2 := hid (HJ1.out.trans (if_pos he4))
        have h1 : ((e4 : Int) != 0) = true := by simp only [bne_iff_ne, ne_eq]; omega
        have h2 : ¬ ((e4 : Int) = 0) := by omega
        clear he4 HJ1 hqq
        go_wp2_with fail
        go_ret
        rw [HJ2.out]
        exact ⟨rfl, HR4.out, HTT.out⟩
    · have HJ1 := hid (HJ.out.trans (if_pos (of_decide_eq_true hqd)))
      clear hq hqd HJ
      go_wp2_with fail
      go_ret
      rw [HJ1.out]
      exact ⟨rfl, HH1.out, HT1.out⟩
end Go.Proofs.YtmehcogaopackaaGreat
