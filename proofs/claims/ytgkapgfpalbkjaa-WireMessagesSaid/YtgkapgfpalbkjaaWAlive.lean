/-
  The walk of alive.
-/
import Derived.Test.YtgkapgfpalbkjaaWireChainM
import Derived.Test.YtgkapgfpalbkjaaBytes
import Derived.Deep.Cut
namespace Go.Proofs.Ytgkapgfpalbkjaa
open Go.RowKit
set_option linter.unusedVariables false
set_option linter.unusedSimpArgs false
def rq1 : Rq := ⟨3, 2, 300, 0, 0, 0, [], [], 0, [], [], 0, false, 0, [], 0, 0⟩
def ms1 : Ms := ⟨2, 2, 1, 1, 0, 0, 0, true, [], [], 0, 0, []⟩
theorem rq1_fit : rq1.fit := by unfold Rq.fit rq1 top64; simp
theorem ms1_fit : ms1.fit := by unfold Ms.fit ms1 top64; simp
theorem rq1_may : mayRq rq1 = true := by decide
theorem ms1_may : mayMs ms1 = true := by decide
theorem rq1_bytes : rq1.bytes = [3, 2, 172, 2] ++ List.replicate 14 0 := by decide
theorem ms1_len : (frame ms1.body).length = 21 := by rw [frame_length]; decide
theorem rq1_write : rqWrite rq1 = (rq1.bytes, 0) := by unfold rqWrite; rw [if_pos rq1_may]
theorem ms1_write : msWrite ms1 = (frame ms1.body, 0) := by unfold msWrite; rw [if_pos ms1_may, frameOf_body _ ms1_may]
theorem rq1_read : rdRq rq1.bytes = (rq1, 0) := rdRq_back rq1 rq1_may rq1_fit
theorem ms1_read : rdMs (frame ms1.body) = (ms1, 0) := by
  have := rdMs_back ms1 ms1_may ms1_fit []
  rw [List.append_nil, if_pos rfl] at this
  exact this
set_option maxRecDepth 100000 in
set_option maxHeartbeats 4000000 in
theorem alive_any (w : World) : Calls Try.prog 8 #[] w fun e w' => e = .returned (.bool true) ∧ Below w.heap.size w w' := by
  have CW := hid (fun W => writeRq_any rq1 (.slice none 0 0) (.slice none 0 0) W [] (Cells.nil _ _) (Cells.nil _ _) (by decide) (by decide) (by intro f hf; simp [rq1] at hf) (by decide) (by decide) (by decide) rq1_fit)
  have CM := hid (fun W => writeMs_any ms1 (.slice none 0 0) (.slice none 0 0) W [] (Cells.nil _ _) (Cells.nil _ _) (by decide) (by decide) (by intro f hf; simp [ms1] at hf) (by decide) ms1_fit)
  have RW := hid (fun W => readRq_any rq1.bytes (by rw [rq1_bytes]; decide) W)
  have RM := hid (fun W => readMs_any (frame ms1.body) (by rw [ms1_len]; decide) W)
  rw [rq1_write] at CW
  rw [ms1_write] at CM
  rw [rq1_read] at RW
  rw [ms1_read] at RM
  go_enter Try.func8, Try.ntmps8
  go_wp2_with fail
  refine Calls.mono (CW.out _) ?_
  rintro e w1 ⟨rfl, hb1⟩
  go_wp2_with fail
  refine Calls.mono (RW.out _) ?_
  rintro e w2 ⟨vu, vf, rfl, hu, hf, hb2⟩
  obtain ⟨au, cu, eu⟩ := hu.form
  obtain ⟨af, cf, ef⟩ := hf.form
  subst eu ef
  clear hu hf
  have hn2 := heap_alloc_new w2 (.cells reqZ 26)
  have hone2 := rq1.cells_one au af rq1.uids.length rq1.flags.length cu cf
  go_wp2_with (refine wpList_store_row rfl 26 _ _ rfl w2.heap.size (rq1.cells (.slice au rq1.uids.length cu) (.slice af rq1.flags.length cf)) (by rfl) (by rfl) 26 reqZ hn2 sizeReq rfl hone2 ?_)
  refine Calls.mono (CM.out _) ?_
  rintro e w3 ⟨rfl, hb3⟩
  have HQ3 : Hid (w3.heap[w2.heap.size]? = some (.cells (rq1.cells (.slice au rq1.uids.length cu) (.slice af rq1.flags.length cf)) 26)) := blk_below (setRow_heap _ _ _ _ _ _ hn2) hb3
  have HB3 : Hid (Below w.heap.size w w3) := (below_row (((hb1.trans (hb2.mono hb1.size)).alloc (Nat.le_trans hb1.size hb2.size) (.cells reqZ 26))) (Nat.le_trans hb1.size hb2.size) _).trans (hb3.mono (by have := hb1.size; have := hb2.size; simp [World.setRow]; omega))
  clear hn2 hone2 hb3 hb2 hb1
  generalize w2.heap.size = g2 at *
  go_wp2_with fail
  refine Calls.mono (RM.out _) ?_
  rintro e w4 ⟨ve, vc, rfl, he, hc, hb4⟩
  obtain ⟨ae, ce, ee⟩ := he.form
  obtain ⟨ac, cc, ec⟩ := hc.form
  subst ee ec
  clear he hc
  have HQ4 := hid (blk_below HQ3.out hb4)
  have HB4 := hid (HB3.out.trans (hb4.mono HB3.out.size))
  clear HQ3 HB3 hb4
  have hn4 := heap_alloc_new w4 (.cells msgZ 32)
  have hone4 := ms1.cells_one ae ac ms1.entries.length ms1.conf.length ce cc
  go_upto_region 5 with (refine wpList_store_row rfl 32 _ _ rfl w4.heap.size (ms1.cells (.slice ae ms1.entries.length ce) (.slice ac ms1.conf.length cc)) (by rfl) (by rfl) 32 msgZ hn4 sizeMsg rfl hone4 ?_)
  have HM5 := hid (setRow_heap (w4.alloc (.cells #[.int .i64 0, .int .i64 0, .int .i64 0, .int .u64 0, .int .u64 0, .int .u64 0, .int .u64 0, .bool false, .slice none 0 0, .slice none 0 0, .int .i64 0, .int .i64 0, .string { data := #[] }] 32)) w4.heap.size msgZ (ms1.cells (.slice ae ms1.entries.length ce) (.slice ac ms1.conf.length cc)) _ _ hn4)
  have hg : g2 ≠ w4.heap.size := Nat.ne_of_lt (Array.getElem?_eq_some_iff.1 HQ4.out).1
  have HQ5 := hid ((setRow_other (w4.alloc (.cells #[.int .i64 0, .int .i64 0, .int .i64 0, .int .u64 0, .int .u64 0, .int .u64 0, .int .u64 0, .bool false, .slice none 0 0, .slice none 0 0, .int .i64 0, .int .i64 0, .string { data := #[] }] 32)) w4.heap.size g2 (ms1.cells (.slice ae ms1.entries.length ce) (.slice ac ms1.conf.length cc)) hg).trans (blk_alloc HQ4.out _))
  have HB5 := hid (below_row (HB4.out.alloc HB4.out.size (.cells #[.int .i64 0, .int .i64 0, .int .i64 0, .int .u64 0, .int .u64 0, .int .u64 0, .int .u64 0, .bool false, .slice none 0 0, .slice none 0 0, .int .i64 0, .int .i64 0, .string { data := #[] }] 32)) HB4.out.size (k := w4.heap.size) (ms1.cells (.slice ae ms1.entries.length ce) (.slice ac ms1.conf.length cc)))
  clear hn4 hone4 HQ4 HB4 hg
  generalize (w4.alloc (.cells #[.int .i64 0, .int .i64 0, .int .i64 0, .int .u64 0, .int .u64 0, .int .u64 0, .int .u64 0, .bool false, .slice none 0 0, .slice none 0 0, .int .i64 0, .int .i64 0, .string { data := #[] }] 32)).setRow w4.heap.size (ms1.cells (.slice ae ms1.entries.length ce) (.slice ac ms1.conf.length cc)) = W5 at *
  generalize w4.heap.size = g4 at *
  have hmk : ∀ w : World, (Instr.makeSlice 53 (.int .i64 14) (.int .i64 14)).run Try.prog w = .ok (.slice (some ⟨w.heap.size, 0, none⟩) 14 14) (w.alloc (.cells (Array.replicate 14 (.int .u8 0)) 5)) := fun _ => by kernel_rfl
  have hcv : (convert 53 9 (.slice (some ⟨W5.heap.size, 0, none⟩) 14 14)).run Try.prog (W5.alloc (.cells (Array.replicate 14 (.int .u8 0)) 5)) = .ok (.string (str (List.replicate 14 0))) (W5.alloc (.cells (Array.replicate 14 (.int .u8 0)) 5)) := by
    have := bytes_back (P := Try.prog) (W5.alloc (.cells (Array.replicate 14 (.int .u8 0)) 5)) 53 9 5 W5.heap.size 14 (List.replicate 14 0) Try.underlying53 Try.underlying5 Try.underlying9 (fun j hj => by
      rw [List.length_replicate] at hj
      refine cell_in (heap_alloc_new W5 _) j _ ?_
      rw [Array.getElem?_replicate, if_pos hj, List.getElem_replicate]
      rfl)
    rw [List.length_replicate] at this
    exact this
  have hq : (W5.alloc (.cells (Array.replicate 14 (.int .u8 0)) 5)).cell? ⟨g2, 2, none⟩ = some (.int .u64 300) := cell_in (blk_alloc HQ5.out _) 2 _ rfl
  have hm7 : (W5.alloc (.cells (Array.replicate 14 (.int .u8 0)) 5)).cell? ⟨g4, 7, none⟩ = some (.bool true) := cell_in (blk_alloc HM5.out _) 7 _ rfl
  have hm1 : (W5.alloc (.cells (Array.replicate 14 (.int .u8 0)) 5)).cell? ⟨g4, 1, none⟩ = some (.int .i64 2) := cell_in (blk_alloc HM5.out _) 1 _ rfl
  have hzz : (str (frame ms1.body)).size = 21 := by rw [str_size]; exact ms1_len
  have HEQ := hid (show ((str rq1.bytes).toList == (({ data := #[3, 2, 172, 2] } : ByteArray) ++ str (List.replicate 14 0)).toList) = true by
    rw [show ({ data := #[3, 2, 172, 2] } : ByteArray) = str [3, 2, 172, 2] from rfl, str_append, str_beq, rq1_bytes]
    decide)
  have hsum : ({ data := #[3, 2, 172, 2] } : ByteArray) ++ str (List.replicate 14 0) = str rq1.bytes := by
    rw [show ({ data := #[3, 2, 172, 2] } : ByteArray) = str [3, 2, 172, 2] from rfl, str_append, rq1_bytes]
  have hs14 : (str (List.replicate 14 0)).size = 14 := by rw [str_size]; rfl
  go_wp2_with fail
  go_ret
  exact ⟨rfl, HB5.out.alloc HB5.out.size _⟩
end Go.Proofs.Ytgkapgfpalbkjaa
