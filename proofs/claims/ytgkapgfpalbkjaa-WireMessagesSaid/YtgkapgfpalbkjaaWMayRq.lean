/-
  The walk of wire.mayRequest.
-/
import Derived.Test.YtgkapgfpalbkjaaWIndex
namespace Go.Proofs.Ytgkapgfpalbkjaa
open Go.RowKit
set_option linter.unusedVariables false
def withinB (n a b : Int) : Bool := decide (a ≤ n) && decide (n ≤ b)
theorem within_b (n a b : Int) (w : World) : Calls Try.prog 67 #[.int .i64 n, .int .i64 a, .int .i64 b] w fun e w' => e = .returned (.bool (withinB n a b)) ∧ w = w' := within_any n a b w
def mayRq (x : Rq) : Bool := withinB x.op 0 10 && (withinB x.node 0 5 && (decide (x.box.length ≤ 64) && (decide (x.dest.length ≤ 64) && (decide (x.uids.length ≤ 64) && (!x.uids.any greatP && (decide (x.flags.length ≤ 16) && (!x.flags.any longP && (withinB x.how 0 2 && (decide (x.hash.length ≤ 32))))))))))
set_option maxRecDepth 100000 in
set_option maxHeartbeats 4000000 in
theorem mayRq_any (x : Rq) (vu vf : Value) (w : World) (D : List Nat) (hu : Cells D w vu x.uids.length (rgVals x.uids)) (hf : Cells D w vf x.flags.length (strVals x.flags)) (hul : x.uids.length ≤ 1152921504606846976) (hfl : x.flags.length ≤ 1152921504606846976) (hm : ∀ f ∈ x.flags, f.length ≤ maxLen)
    (hb : x.box.length ≤ maxLen) (hd : x.dest.length ≤ maxLen) (hh : x.hash.length ≤ maxLen) :
    Calls Try.prog 21 #[.agg (x.cells vu vf)] w fun e w' => e = .returned (.bool (mayRq x)) ∧ Below w.heap.size w w' := by
  have HM := hid (show mayRq x = (withinB x.op 0 10 && (withinB x.node 0 5 && (decide (x.box.length ≤ 64) && (decide (x.dest.length ≤ 64) && (decide (x.uids.length ≤ 64) && (!x.uids.any greatP && (decide (x.flags.length ≤ 16) && (!x.flags.any longP && (withinB x.how 0 2 && (decide (x.hash.length ≤ 32))))))))))) from rfl)
  have z1 : (str x.box).size = x.box.length := str_size _
  have z2 : (str x.dest).size = x.dest.length := str_size _
  have z3 : (str x.hash).size = x.hash.length := str_size _
  have HF := hid hm
  have HCU := hid hu
  have HCF := hid hf
  unfold maxLen at hb hd hh
  obtain ⟨au, cu, eu⟩ := hu.form
  obtain ⟨af, cf, ef⟩ := hf.form
  clear hm hu hf
  have hblk : (w.alloc (.cells (x.cells vu vf) 26)).heap[w.heap.size]? = some (.cells (x.cells vu vf) 26) := heap_alloc_new w _
  have hB0 : Below w.heap.size w (w.alloc (.cells (x.cells vu vf) 26)) := (Below.refl _ _).alloc (Nat.le_refl _) _
  subst eu ef
  unfold Rq.cells at *
  go_enter Try.func21, Try.ntmps21
  go_wp2_with fail
  generalize w.alloc (.cells #[.int .i64 x.op, .int .u64 x.session, .int .u64 x.number, .int .i64 x.node, .int .u64 x.life, .int .u64 x.tried, .string (str x.box), .string (str x.dest), .int .u64 x.validity, .slice au x.uids.length cu, .slice af x.flags.length cf, .int .i64 x.how, .bool x.has, .int .u64 x.since, .string (str x.hash), .int .u64 x.size, .int .u64 x.sweeps] 26) = W at *
  have HB := hid hB0
  clear hB0
  generalize w.heap.size = k at hblk ⊢
  have HK := hid hblk
  clear hblk
  have c_3 : W.cell? ⟨k, 3, none⟩ = some (.int .i64 x.node) := cell_in HK.out 3 _ rfl
  have c_6 : W.cell? ⟨k, 6, none⟩ = some (.string (str x.box)) := cell_in HK.out 6 _ rfl
  have c_7 : W.cell? ⟨k, 7, none⟩ = some (.string (str x.dest)) := cell_in HK.out 7 _ rfl
  have c_9 : W.cell? ⟨k, 9, none⟩ = some (.slice au x.uids.length cu) := cell_in HK.out 9 _ rfl
  have c_10 : W.cell? ⟨k, 10, none⟩ = some (.slice af x.flags.length cf) := cell_in HK.out 10 _ rfl
  have c_11 : W.cell? ⟨k, 11, none⟩ = some (.int .i64 x.how) := cell_in HK.out 11 _ rfl
  have c_14 : W.cell? ⟨k, 14, none⟩ = some (.string (str x.hash)) := cell_in HK.out 14 _ rfl
  refine Calls.mono (within_b _ _ _ _) ?_
  rintro e w1 ⟨rfl, rfl⟩
  cases h0 : withinB x.op 0 10
  · go_wp2_with fail
    go_ret
    exact ⟨ret_bool (by rw [HM.out]; simp [h0]; try omega), HB.out⟩
  go_wp2_with fail
  refine Calls.mono (within_b _ _ _ _) ?_
  rintro e w1 ⟨rfl, rfl⟩
  cases h1 : withinB x.node 0 5
  · go_wp2_with fail
    go_ret
    exact ⟨ret_bool (by rw [HM.out]; simp [h0, h1]; try omega), HB.out⟩
  by_cases h2 : x.box.length ≤ 64
  rotate_left
  · go_wp2_with fail
    go_ret
    exact ⟨ret_bool (by rw [HM.out]; simp [h0, h1, h2]; try omega), HB.out⟩
  by_cases h3 : x.dest.length ≤ 64
  rotate_left
  · go_wp2_with fail
    go_ret
    exact ⟨ret_bool (by rw [HM.out]; simp [h0, h1, h2, h3]; try omega), HB.out⟩
  by_cases h4 : x.uids.length ≤ 64
  rotate_left
  · go_wp2_with fail
    go_ret
    exact ⟨ret_bool (by rw [HM.out]; simp [h0, h1, h2, h3, h4]; try omega), HB.out⟩
  go_wp2_with fail
  refine Calls.mono (containsRanges_any x.uids _ _ D (HCU.out.kept fun j hj _ => HB.out.block j hj) hul) ?_
  rintro e W1 ⟨rfl, hb1⟩
  have HB1 := hid (HB.out.trans (hb1.mono (HB.out.size)))
  have HK1 := hid ((hb1.block k (Array.getElem?_eq_some_iff.1 HK.out).1).trans HK.out)
  clear hb1
  have c1_3 : W1.cell? ⟨k, 3, none⟩ = some (.int .i64 x.node) := cell_in HK1.out 3 _ rfl
  have c1_6 : W1.cell? ⟨k, 6, none⟩ = some (.string (str x.box)) := cell_in HK1.out 6 _ rfl
  have c1_7 : W1.cell? ⟨k, 7, none⟩ = some (.string (str x.dest)) := cell_in HK1.out 7 _ rfl
  have c1_9 : W1.cell? ⟨k, 9, none⟩ = some (.slice au x.uids.length cu) := cell_in HK1.out 9 _ rfl
  have c1_10 : W1.cell? ⟨k, 10, none⟩ = some (.slice af x.flags.length cf) := cell_in HK1.out 10 _ rfl
  have c1_11 : W1.cell? ⟨k, 11, none⟩ = some (.int .i64 x.how) := cell_in HK1.out 11 _ rfl
  have c1_14 : W1.cell? ⟨k, 14, none⟩ = some (.string (str x.hash)) := cell_in HK1.out 14 _ rfl
  cases h5 : x.uids.any greatP
  rotate_left
  · go_wp2_with fail
    go_ret
    exact ⟨ret_bool (by rw [HM.out]; simp [h0, h1, h2, h3, h4, h5]; try omega), HB1.out⟩
  by_cases h6 : x.flags.length ≤ 16
  rotate_left
  · go_wp2_with fail
    go_ret
    exact ⟨ret_bool (by rw [HM.out]; simp [h0, h1, h2, h3, h4, h5, h6]; try omega), HB1.out⟩
  go_wp2_with fail
  refine Calls.mono (containsFlags_any x.flags _ _ D (HCF.out.kept fun j hj _ => HB1.out.block j hj) hfl HF.out) ?_
  rintro e W2 ⟨rfl, hb2⟩
  have HB2 := hid (HB1.out.trans (hb2.mono (HB1.out.size)))
  have HK2 := hid ((hb2.block k (Array.getElem?_eq_some_iff.1 HK1.out).1).trans HK1.out)
  clear hb2
  have c2_3 : W2.cell? ⟨k, 3, none⟩ = some (.int .i64 x.node) := cell_in HK2.out 3 _ rfl
  have c2_6 : W2.cell? ⟨k, 6, none⟩ = some (.string (str x.box)) := cell_in HK2.out 6 _ rfl
  have c2_7 : W2.cell? ⟨k, 7, none⟩ = some (.string (str x.dest)) := cell_in HK2.out 7 _ rfl
  have c2_9 : W2.cell? ⟨k, 9, none⟩ = some (.slice au x.uids.length cu) := cell_in HK2.out 9 _ rfl
  have c2_10 : W2.cell? ⟨k, 10, none⟩ = some (.slice af x.flags.length cf) := cell_in HK2.out 10 _ rfl
  have c2_11 : W2.cell? ⟨k, 11, none⟩ = some (.int .i64 x.how) := cell_in HK2.out 11 _ rfl
  have c2_14 : W2.cell? ⟨k, 14, none⟩ = some (.string (str x.hash)) := cell_in HK2.out 14 _ rfl
  cases h7 : x.flags.any longP
  rotate_left
  · go_wp2_with fail
    go_ret
    exact ⟨ret_bool (by rw [HM.out]; simp [h0, h1, h2, h3, h4, h5, h6, h7]; try omega), HB2.out⟩
  go_wp2_with fail
  refine Calls.mono (within_b _ _ _ _) ?_
  rintro e w1 ⟨rfl, rfl⟩
  cases h8 : withinB x.how 0 2
  · go_wp2_with fail
    go_ret
    exact ⟨ret_bool (by rw [HM.out]; simp [h0, h1, h2, h3, h4, h5, h6, h7, h8]; try omega), HB2.out⟩
  by_cases h9 : x.hash.length ≤ 32
  rotate_left
  · go_wp2_with fail
    go_ret
    exact ⟨ret_bool (by rw [HM.out]; simp [h0, h1, h2, h3, h4, h5, h6, h7, h8, h9]; try omega), HB2.out⟩
  · go_wp2_with fail
    go_ret
    exact ⟨ret_bool (by rw [HM.out]; simp [h0, h1, h2, h3, h4, h5, h6, h7, h8, h9]; try omega), HB2.out⟩
end Go.Proofs.Ytgkapgfpalbkjaa
