/-
  The walks of the journal's Hard, Log, Image, of the law's state; disk.New; the calls on a journal that is none.
-/
import Derived.Test.YtmehcogaopackaaJLog
namespace Go.Proofs.Ytmehcogaopackaa
open Go.RowKit
set_option linter.unusedVariables false
set_option linter.unusedSimpArgs false
theorem sizeHard : (Try.prog.info? 25).map (·.size) = some 3 := by kernel_rfl
theorem JnAt.cells {W : World} {j p : Nat} {G : List Nat} {d : Ds} {S : Js} (h : JnAt W j p G d S) : ∃ z vc vl, W.heap[j]? = some (.cells (jnCells p S z vc vl) 73) ∧ W.ownsRow 0 3 1 vc S.log.conf.length (intVals S.log.conf) ∧ W.ownsRow 0 50 3 vl S.log.l.length (enVals S.log.l) := by
  obtain ⟨F, z, vc, vl, h1, _, h3, h4, _⟩ := h
  exact ⟨z, vc, vl, h1, h3, h4⟩
theorem JnAt.ok {W : World} {j p : Nat} {G : List Nat} {d : Ds} {S : Js} (h : JnAt W j p G d S) : JsOk S ∧ S.log.l.length ≤ 1000000 := by
  obtain ⟨F, z, vc, vl, h1, h2, h3, h4, h5, h6, h6', _⟩ := h
  exact ⟨h5, h6'⟩
theorem JnAt.lt {W : World} {j p : Nat} {G : List Nat} {d : Ds} {S : Js} (h : JnAt W j p G d S) : ∀ b ∈ G, b < W.heap.size := by
  obtain ⟨F, z, vc, vl, h1, h2, h3, h4, h5, h6, h6', h7, h8, h9, h10, h11, h12⟩ := h
  exact h12
set_option maxRecDepth 100000 in
set_option maxHeartbeats 4000000 in
theorem jhard_any {W : World} {j p : Nat} {G : List Nat} {d : Ds} {S : Js} (h : JnAt W j p G d S) :
    Calls Try.prog 18 #[.pointer (some ⟨j, 0, none⟩)] W fun e W' => e = .returned (.agg #[.int .u64 S.hard.term, .int .i64 S.hard.vote, .int .u64 S.hard.life]) ∧ Below W.heap.size W W' := by
  obtain ⟨z, vc, vl, h1, _, _⟩ := h.cells
  have h2 := blk_below h1 ((Below.refl _ _).alloc (Nat.le_refl _) (.cells #[.int .u64 0, .int .i64 0, .int .u64 0] 25))
  have c1 := cell_in h2 1 (.int .u64 S.hard.term) rfl
  have c2 := cell_in h2 2 (.int .i64 S.hard.vote) rfl
  have c3 := cell_in h2 3 (.int .u64 S.hard.life) rfl
  have hk := heap_alloc_new W (.cells #[.int .u64 0, .int .i64 0, .int .u64 0] 25)
  have HB : Hid (Below W.heap.size W ((W.alloc (.cells #[.int .u64 0, .int .i64 0, .int .u64 0] 25)).setRow W.heap.size #[.int .u64 S.hard.term, .int .i64 S.hard.vote, .int .u64 S.hard.life])) := below_row ((Below.refl _ _).alloc (Nat.le_refl _) _) (Nat.le_refl _) _
  have HK := hid (setRow_heap _ _ _ #[.int .u64 S.hard.term, .int .i64 S.hard.vote, .int .u64 S.hard.life] _ (0, 0) hk)
  have HK0 := hid hk
  clear h1 h2 hk h
  go_enter Try.func18, Try.ntmps18
  go_wp2_with (refine wpList_store_row rfl 25 _ _ rfl W.heap.size #[.int .u64 S.hard.term, .int .i64 S.hard.vote, .int .u64 S.hard.life] (by rfl) (by rfl) 25 _ HK0.out sizeHard rfl (by simp [Value.oneCell']) ?_)
  exact ⟨rfl, _, results_cell_row rfl _ _ W.heap.size _ _ (0, 0) _ rfl HK.out Try.underlying25 rfl sizeHard, rfl, HB.out⟩
set_option maxRecDepth 100000 in
set_option maxHeartbeats 4000000 in
theorem jimage_any {W : World} {j p : Nat} {G : List Nat} {d : Ds} {S : Js} (h : JnAt W j p G d S) :
    Calls Try.prog 20 #[.pointer (some ⟨j, 0, none⟩)] W fun e W' => e = .returned (.string (str S.image)) ∧ Below W.heap.size W W' := by
  obtain ⟨z, vc, vl, h1, _, _⟩ := h.cells
  have c8 := cell_in h1 8 (.string (str S.image)) rfl
  clear h1 h
  go_enter Try.func20, Try.ntmps20
  go_wp2_with fail
  go_ret
  exact ⟨rfl, Below.refl _ _⟩
set_option maxRecDepth 100000 in
set_option maxHeartbeats 4000000 in
theorem jlog_any {W : World} {j p : Nat} {G : List Nat} {d : Ds} {S : Js} (h : JnAt W j p G d S) :
    Calls Try.prog 14 #[.pointer (some ⟨j, 0, none⟩)] W fun e W' => ∃ vc' vl', e = .returned (.agg #[.int .u64 S.log.base, .int .u64 S.log.bterm, vc', vl']) ∧
      W'.ownsRow W.heap.size 3 1 vc' S.log.conf.length (intVals S.log.conf) ∧ W'.ownsRow W.heap.size 50 3 vl' S.log.l.length (enVals S.log.l) ∧ Below W.heap.size W W' := by
  have hok := h.ok
  have hcl := members_len _ hok.1.2.2.2.2.2.1
  obtain ⟨z, vc, vl, h1, hr1, hr2⟩ := h.cells
  have hba : Below W.heap.size W (W.alloc (.cells #[.int .u64 0, .int .u64 0, .slice none 0 0, .slice none 0 0] 29)) := (Below.refl _ _).alloc (Nat.le_refl _) _
  have h2 := blk_below h1 hba
  have HC := hid (clone_any S.log.base S.log.bterm ((Cells.of_row (D := []) hr1 (by simp)).below hba) ((Cells.of_row (D := []) hr2 (by simp)).below hba) (by omega) hok.2)
  obtain ⟨ac, cc, rfl⟩ := own_form hr1
  obtain ⟨al, cl, rfl⟩ := own_form hr2
  have c4 := cell_in h2 4 (.int .u64 S.log.base) rfl
  have c5 := cell_in h2 5 (.int .u64 S.log.bterm) rfl
  have c6 := cell_in h2 6 (.slice ac S.log.conf.length cc) rfl
  have c7 := cell_in h2 7 (.slice al S.log.l.length cl) rfl
  have HB := hid hba
  have HK := hid (heap_alloc_new W (.cells #[.int .u64 0, .int .u64 0, .slice none 0 0, .slice none 0 0] 29))
  clear h1 h2 h hr1 hr2 hba
  go_enter Try.func14, Try.ntmps14
  go_wp2_with fail
  refine Calls.mono HC.out ?_
  rintro e w2 ⟨vc', vl', rfl, hr1, hr2, hb2⟩
  obtain ⟨ac', cc', rfl⟩ := own_form hr1
  obtain ⟨al', cl', rfl⟩ := own_form hr2
  have HK2 := hid (blk_below HK.out hb2)
  have HK3 := hid (setRow_heap _ _ _ #[.int .u64 S.log.base, .int .u64 S.log.bterm, .slice ac' S.log.conf.length cc', .slice al' S.log.l.length cl'] _ (0, 0) HK2.out)
  have HB2 := hid (HB.out.trans (hb2.mono HB.out.size))
  have HR1 := hid hr1
  have HR2 := hid hr2
  clear hr1 hr2 hb2 c4 c5 c6 c7
  go_wp2_with (refine wpList_store_row rfl 29 _ _ rfl W.heap.size #[.int .u64 S.log.base, .int .u64 S.log.bterm, .slice ac' S.log.conf.length cc', .slice al' S.log.l.length cl'] (by rfl) (by rfl) 29 _ HK2.out sizeLog rfl (by simp [Value.oneCell']) ?_)
  have hz : W.heap.size ≤ (W.alloc (.cells #[.int .u64 0, .int .u64 0, .slice none 0 0, .slice none 0 0] 29)).heap.size := by simp
  have hk : Kept2 W.heap.size W.heap.size w2 (w2.setRow W.heap.size #[.int .u64 S.log.base, .int .u64 S.log.bterm, .slice ac' S.log.conf.length cc', .slice al' S.log.l.length cl']) := (Kept2.refl _ _ _).row _
  have n1 := own_ne HR1.out HK2.out (fun cur e => by cases e)
  have n2 := own_ne HR2.out HK2.out (fun cur e => by cases e)
  exact ⟨rfl, _, results_cell_row rfl _ _ W.heap.size _ _ (0, 0) _ rfl HK3.out Try.underlying29 rfl sizeLog, _, _, rfl, ownsRow_mono (row_kept2 HR1.out hk n1 n1) hz, ownsRow_mono (row_kept2 HR2.out hk n2 n2) hz, below_row HB2.out (Nat.le_refl _) _⟩
end Go.Proofs.Ytmehcogaopackaa
