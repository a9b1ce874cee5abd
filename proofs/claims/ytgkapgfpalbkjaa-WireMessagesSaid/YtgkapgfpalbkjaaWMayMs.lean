/-
  The walk of wire.mayMessage.
-/
import Derived.Test.YtgkapgfpalbkjaaWIndexM
import Derived.Laws.EntriesVeiled
namespace Go.Proofs.Ytgkapgfpalbkjaa
open Go.RowKit
set_option linter.unusedVariables false
def mayMs (x : Ms) : Bool := withinB x.kind 1 11 && (withinB x.src 1 5 && (withinB x.dest 1 5 && (decide (x.entries.length ≤ 8) && (!x.entries.any entryP && (decide (x.conf.length ≤ 5) && (!x.conf.any nodeP && (withinB x.offset 0 262144 && (withinB x.size 0 262144 && (decide (x.data.length ≤ 4096))))))))))
set_option maxRecDepth 100000 in
set_option maxHeartbeats 4000000 in
theorem mayMs_any (x : Ms) (vu vf : Value) (w : World) (D : List Nat) (hu : Cells D w vu x.entries.length (enVals x.entries)) (hf : Cells D w vf x.conf.length (intVals x.conf)) (hul : x.entries.length ≤ 1152921504606846976) (hfl : x.conf.length ≤ 1152921504606846976) (hm : ∀ e ∈ x.entries, e.data.length ≤ maxLen)
    (hd : x.data.length ≤ maxLen) :
    Calls Try.prog 48 #[.agg (x.cells vu vf)] w fun e w' => e = .returned (.bool (mayMs x)) ∧ Below w.heap.size w w' := by
  have HM := hid (show mayMs x = (withinB x.kind 1 11 && (withinB x.src 1 5 && (withinB x.dest 1 5 && (decide (x.entries.length ≤ 8) && (!x.entries.any entryP && (decide (x.conf.length ≤ 5) && (!x.conf.any nodeP && (withinB x.offset 0 262144 && (withinB x.size 0 262144 && (decide (x.data.length ≤ 4096))))))))))) from rfl)
  have z1 : (str x.data).size = x.data.length := str_size _
  have HF := hid hm
  have HCU := hid hu
  have HCF := hid hf
  unfold maxLen at hd
  obtain ⟨au, cu, eu⟩ := hu.form
  obtain ⟨af, cf, ef⟩ := hf.form
  clear hm hu hf
  have hblk := heap_alloc_new w (.cells (x.cells vu vf) 32)
  have hB0 : Below w.heap.size w ((w.alloc (.cells (x.cells vu vf) 32)).alloc (.cells #[.func (.func 77) #[] #[]] 117)) := ((Below.refl _ _).alloc (Nat.le_refl _) _).alloc (by simp) _
  have hblk2 : ((w.alloc (.cells (x.cells vu vf) 32)).alloc (.cells #[.func (.func 77) #[] #[]] 117)).heap[w.heap.size]? = some (.cells (x.cells vu vf) 32) := (heap_alloc_old _ _ (by simp)).trans hblk
  have hc0 : ((w.alloc (.cells (x.cells vu vf) 32)).alloc (.cells #[.func (.func 77) #[] #[]] 117)).cell? ⟨w.heap.size + 1, 0, none⟩ = some (.func (.func 77) #[] #[]) := by
    have := heap_alloc_new (w.alloc (.cells (x.cells vu vf) 32)) (.cells #[.func (.func 77) #[] #[]] 117)
    rw [World.size_alloc] at this
    exact cell_in this 0 _ rfl
  clear hblk
  subst eu ef
  unfold Ms.cells at *
  go_enter Try.func48, Try.ntmps48
  go_wp2_with fail
  generalize (w.alloc (.cells #[.int .i64 x.kind, .int .i64 x.src, .int .i64 x.dest, .int .u64 x.term, .int .u64 x.index, .int .u64 x.logTerm, .int .u64 x.commit, .bool x.ok, .slice au x.entries.length cu, .slice af x.conf.length cf, .int .i64 x.offset, .int .i64 x.size, .string (str x.data)] 32)).alloc (.cells #[.func (.func 77) #[] #[]] 117) = W at *
  have HB := hid hB0
  have hck : w.heap.size + 1 < W.heap.size := World.block_lt_of_cell? _ _ hc0
  clear hB0
  generalize w.heap.size + 1 = c at hc0 hck ⊢
  generalize w.heap.size = k at hblk2 ⊢
  have HK := hid hblk2
  have hcf := hc0
  have HC := hid hc0
  clear hblk2 hc0
  have c_1 : W.cell? ⟨k, 1, none⟩ = some (.int .i64 x.src) := cell_in HK.out 1 _ rfl
  have c_2 : W.cell? ⟨k, 2, none⟩ = some (.int .i64 x.dest) := cell_in HK.out 2 _ rfl
  have c_8 : W.cell? ⟨k, 8, none⟩ = some (.slice au x.entries.length cu) := cell_in HK.out 8 _ rfl
  have c_9 : W.cell? ⟨k, 9, none⟩ = some (.slice af x.conf.length cf) := cell_in HK.out 9 _ rfl
  have c_10 : W.cell? ⟨k, 10, none⟩ = some (.int .i64 x.offset) := cell_in HK.out 10 _ rfl
  have c_11 : W.cell? ⟨k, 11, none⟩ = some (.int .i64 x.size) := cell_in HK.out 11 _ rfl
  have c_12 : W.cell? ⟨k, 12, none⟩ = some (.string (str x.data)) := cell_in HK.out 12 _ rfl
  refine Calls.mono (within_b _ _ _ _) ?_
  rintro e w1 ⟨rfl, rfl⟩
  cases h0 : withinB x.kind 1 11
  · go_wp2_with fail
    go_ret
    exact ⟨ret_bool (by rw [HM.out]; simp [h0]; try omega), HB.out⟩
  go_wp2_with fail
  refine Calls.mono (node_any _ _) ?_
  rintro e w1 ⟨rfl, rfl⟩
  cases h1 : withinB x.src 1 5
  · go_wp2_with fail
    go_ret
    exact ⟨ret_bool (by rw [HM.out]; simp [h0, h1]; try omega), HB.out⟩
  go_wp2_with fail
  refine Calls.mono (node_any _ _) ?_
  rintro e w1 ⟨rfl, rfl⟩
  cases h2 : withinB x.dest 1 5
  · go_wp2_with fail
    go_ret
    exact ⟨ret_bool (by rw [HM.out]; simp [h0, h1, h2]; try omega), HB.out⟩
  by_cases h3 : x.entries.length ≤ 8
  rotate_left
  · go_wp2_with fail
    go_ret
    exact ⟨ret_bool (by rw [HM.out]; simp [h0, h1, h2, h3]; try omega), HB.out⟩
  go_wp2_with fail
  refine Calls.mono (containsEntries_any x.entries _ _ D (HCU.out.kept fun j hj _ => HB.out.block j hj) hul HF.out) ?_
  rintro e W1 ⟨rfl, hb1⟩
  have HB1 := hid (HB.out.trans (hb1.mono (HB.out.size)))
  have HK1 := hid ((hb1.block k (Array.getElem?_eq_some_iff.1 HK.out).1).trans HK.out)
  have HC1 := hid ((hb1.cell (p := ⟨c, 0, none⟩) (World.block_lt_of_cell? _ _ HC.out)).trans HC.out)
  clear hb1
  have c1_1 : W1.cell? ⟨k, 1, none⟩ = some (.int .i64 x.src) := cell_in HK1.out 1 _ rfl
  have c1_2 : W1.cell? ⟨k, 2, none⟩ = some (.int .i64 x.dest) := cell_in HK1.out 2 _ rfl
  have c1_8 : W1.cell? ⟨k, 8, none⟩ = some (.slice au x.entries.length cu) := cell_in HK1.out 8 _ rfl
  have c1_9 : W1.cell? ⟨k, 9, none⟩ = some (.slice af x.conf.length cf) := cell_in HK1.out 9 _ rfl
  have c1_10 : W1.cell? ⟨k, 10, none⟩ = some (.int .i64 x.offset) := cell_in HK1.out 10 _ rfl
  have c1_11 : W1.cell? ⟨k, 11, none⟩ = some (.int .i64 x.size) := cell_in HK1.out 11 _ rfl
  have c1_12 : W1.cell? ⟨k, 12, none⟩ = some (.string (str x.data)) := cell_in HK1.out 12 _ rfl
  cases h4 : x.entries.any entryP
  rotate_left
  · go_wp2_with fail
    go_ret
    exact ⟨ret_bool (by rw [HM.out]; simp [h0, h1, h2, h3, h4]; try omega), HB1.out⟩
  by_cases h5 : x.conf.length ≤ 5
  rotate_left
  · go_wp2_with fail
    go_ret
    exact ⟨ret_bool (by rw [HM.out]; simp [h0, h1, h2, h3, h4, h5]; try omega), HB1.out⟩
  go_wp2_with fail
  refine Calls.mono (containsConfs_any x.conf _ _ D (HCF.out.kept fun j hj _ => HB1.out.block j hj) hfl c HC1.out) ?_
  rintro e W2 ⟨rfl, hb2⟩
  have HB2 := hid (HB1.out.trans (hb2.mono (HB1.out.size)))
  have HK2 := hid ((hb2.block k (Array.getElem?_eq_some_iff.1 HK1.out).1).trans HK1.out)
  have HC2 := hid ((hb2.cell (p := ⟨c, 0, none⟩) (World.block_lt_of_cell? _ _ HC1.out)).trans HC1.out)
  clear hb2
  have c2_1 : W2.cell? ⟨k, 1, none⟩ = some (.int .i64 x.src) := cell_in HK2.out 1 _ rfl
  have c2_2 : W2.cell? ⟨k, 2, none⟩ = some (.int .i64 x.dest) := cell_in HK2.out 2 _ rfl
  have c2_8 : W2.cell? ⟨k, 8, none⟩ = some (.slice au x.entries.length cu) := cell_in HK2.out 8 _ rfl
  have c2_9 : W2.cell? ⟨k, 9, none⟩ = some (.slice af x.conf.length cf) := cell_in HK2.out 9 _ rfl
  have c2_10 : W2.cell? ⟨k, 10, none⟩ = some (.int .i64 x.offset) := cell_in HK2.out 10 _ rfl
  have c2_11 : W2.cell? ⟨k, 11, none⟩ = some (.int .i64 x.size) := cell_in HK2.out 11 _ rfl
  have c2_12 : W2.cell? ⟨k, 12, none⟩ = some (.string (str x.data)) := cell_in HK2.out 12 _ rfl
  cases h6 : x.conf.any nodeP
  rotate_left
  · go_wp2_with fail
    go_ret
    exact ⟨ret_bool (by rw [HM.out]; simp [h0, h1, h2, h3, h4, h5, h6]; try omega), HB2.out⟩
  go_wp2_with fail
  refine Calls.mono (within_b _ _ _ _) ?_
  rintro e w1 ⟨rfl, rfl⟩
  cases h7 : withinB x.offset 0 262144
  · go_wp2_with fail
    go_ret
    exact ⟨ret_bool (by rw [HM.out]; simp [h0, h1, h2, h3, h4, h5, h6, h7]; try omega), HB2.out⟩
  go_wp2_with fail
  refine Calls.mono (within_b _ _ _ _) ?_
  rintro e w1 ⟨rfl, rfl⟩
  cases h8 : withinB x.size 0 262144
  · go_wp2_with fail
    go_ret
    exact ⟨ret_bool (by rw [HM.out]; simp [h0, h1, h2, h3, h4, h5, h6, h7, h8]; try omega), HB2.out⟩
  by_cases h9 : x.data.length ≤ 4096
  rotate_left
  · go_wp2_with fail
    go_ret
    exact ⟨ret_bool (by rw [HM.out]; simp [h0, h1, h2, h3, h4, h5, h6, h7, h8, h9]; try omega), HB2.out⟩
  · go_wp2_with fail
    go_ret
    exact ⟨ret_bool (by rw [HM.out]; simp [h0, h1, h2, h3, h4, h5, h6, h7, h8, h9]; try omega), HB2.out⟩
end Go.Proofs.Ytgkapgfpalbkjaa
