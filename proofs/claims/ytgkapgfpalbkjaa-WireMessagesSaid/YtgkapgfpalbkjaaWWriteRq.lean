/-
  The walk of wire.Request.
-/
import Derived.Test.YtgkapgfpalbkjaaWMayRq
import Derived.Test.YtgkapgfpalbkjaaWList
import Derived.Laws.Rows
import Derived.Deep.RegionHeld3
namespace Go.Proofs.Ytgkapgfpalbkjaa
open Go.RowKit
set_option linter.unusedVariables false
set_option linter.unusedSimpArgs false
/-- a request's bytes -/
def Rq.bytes (x : Rq) : Bytes :=
  ([x.op.toNat, x.session, x.number, x.node.toNat, x.life, x.tried].map num).flatten ++ text x.box ++ text x.dest ++ num x.validity ++ (listB rgBytes x.uids ++ listB text x.flags) ++
  ([x.how.toNat, bitN x.has, x.since].map num).flatten ++ text x.hash ++ ([x.size, x.sweeps].map num).flatten
/-- what the numbers of a request must be, whatever they are -/
def Rq.fit (x : Rq) : Prop := x.session < top64 ∧ x.number < top64 ∧ x.life < top64 ∧ x.tried < top64 ∧ x.validity < top64 ∧ x.since < top64 ∧ x.size < top64 ∧ x.sweeps < top64 ∧ (∀ r ∈ x.uids, r.1 < top64 ∧ r.2 < top64)
theorem mayRq_parts {x : Rq} (h : mayRq x = true) : (0 ≤ x.op ∧ x.op ≤ 10) ∧ (0 ≤ x.node ∧ x.node ≤ 5) ∧ x.box.length ≤ 64 ∧ x.dest.length ≤ 64 ∧ x.uids.length ≤ 64 ∧ (∀ r ∈ x.uids, r.1 ≤ 4294967295 ∧ r.2 ≤ 4294967295) ∧ x.flags.length ≤ 16 ∧ (∀ f ∈ x.flags, f.length ≤ 32) ∧ (0 ≤ x.how ∧ x.how ≤ 2) ∧ x.hash.length ≤ 32 := by
  unfold mayRq withinB at h
  simp only [Bool.and_eq_true, decide_eq_true_eq, Bool.not_eq_true', List.any_eq_false] at h
  obtain ⟨h1, h2, h3, h4, h5, h6, h7, h8, h9, h10⟩ := h
  refine ⟨h1, h2, h3, h4, h5, fun r hr => ?_, h7, fun f hf => ?_, h9, h10⟩
  · have := h6 r hr
    unfold greatP at this
    simp only [decide_eq_true_eq] at this
    omega
  · have := h8 f hf
    unfold longP at this
    simp only [decide_eq_true_eq] at this
    omega
set_option maxRecDepth 100000 in
set_option maxHeartbeats 4000000 in
theorem writeRq_no (x : Rq) (vu vf : Value) (w : World) (D : List Nat) (hu : Cells D w vu x.uids.length (rgVals x.uids)) (hf : Cells D w vf x.flags.length (strVals x.flags)) (hul : x.uids.length ≤ 1152921504606846976) (hfl : x.flags.length ≤ 1152921504606846976) (hm : ∀ f ∈ x.flags, f.length ≤ maxLen)
    (hb : x.box.length ≤ maxLen) (hd : x.dest.length ≤ maxLen) (hh : x.hash.length ≤ maxLen) (hno : mayRq x = false) :
    Calls Try.prog 10 #[.agg (x.cells vu vf)] w fun e w' => e = .returned (.tuple #[.string (str []), .int .i64 1]) ∧ Below w.heap.size w w' := by
  have HB0 : Hid (Below w.heap.size w (w.alloc (.cells (x.cells vu vf) 26))) := (Below.refl _ _).alloc (Nat.le_refl _) _
  have HK := hid (heap_alloc_new w (.cells (x.cells vu vf) 26))
  have H := hid (mayRq_any x vu vf (w.alloc (.cells (x.cells vu vf) 26)) D (hu.below HB0.out) (hf.below HB0.out) hul hfl hm hb hd hh)
  obtain ⟨au, cu, eu⟩ := hu.form
  obtain ⟨af, cf, ef⟩ := hf.form
  subst eu ef
  rw [hno] at H
  clear hu hf hm hno
  go_enter Try.func10, Try.ntmps10
  go_wp2_with (refine wpList_load_row rfl 26 _ rfl w.heap.size (by rfl) 26 (x.cells _ _) (0, 0) _ HK.out Try.underlying26 rfl (by kernel_rfl) ?_)
  refine Calls.mono H.out ?_
  rintro e w1 ⟨rfl, hb1⟩
  go_wp2_with fail
  go_ret2
  exact ⟨rfl, HB0.out.trans (hb1.mono HB0.out.size)⟩
set_option maxRecDepth 100000 in
set_option maxHeartbeats 4000000 in
theorem writeRq_at (op session number node life tried validity how since size sweeps : Nat) (box dest hash : Bytes) (uids : List (Nat × Nat)) (flags : List Bytes) (has : Bool) (x : Rq) (hx : Hid (x = ⟨op, session, number, node, life, tried, box, dest, validity, uids, flags, how, has, since, hash, size, sweeps⟩))
    (vu vf : Value) (w : World) (D : List Nat) (hu : Cells D w vu uids.length (rgVals uids)) (hf : Cells D w vf flags.length (strVals flags)) (hyes : mayRq x = true) (hfit : x.fit) :
    Calls Try.prog 10 #[.agg (x.cells vu vf)] w fun e w' => e = .returned (.tuple #[.string (str x.bytes), .int .i64 0]) ∧ Below w.heap.size w w' := by
  have hp := mayRq_parts hyes
  have hft := hfit
  unfold Rq.fit at hft
  have hbig : ∀ n : Nat, n ≤ 64 → n ≤ 1152921504606846976 := fun n h => by omega
  have HB0 : Hid (Below w.heap.size w (w.alloc (.cells (x.cells vu vf) 26))) := (Below.refl _ _).alloc (Nat.le_refl _) _
  have HK := hid (heap_alloc_new w (.cells (x.cells vu vf) 26))
  have hu' : Cells D w vu x.uids.length (rgVals x.uids) := by rw [hx.out]; exact hu
  have hf' : Cells D w vf x.flags.length (strVals x.flags) := by rw [hx.out]; exact hf
  have H := hid (mayRq_any x vu vf (w.alloc (.cells (x.cells vu vf) 26)) D (hu'.below HB0.out) (hf'.below HB0.out) (hbig _ hp.2.2.2.2.1) (by omega) (fun f h => by have := hp.2.2.2.2.2.2.2.1 f h; unfold maxLen; omega) (by unfold maxLen; omega) (by unfold maxLen; omega) (by unfold maxLen; omega))
  rw [hyes] at H
  clear hu' hf' hbig
  have HXB := hid (show x.bytes = _ from rfl)
  rw [hx.out] at hp hft
  simp only at hp hft
  obtain ⟨⟨_, p1⟩, ⟨_, p2⟩, p3, p4, p5, p6, p7, p8, ⟨_, p9⟩, p10⟩ := hp
  obtain ⟨f1, f2, f3, f4, f5, f6, f7, f8, f9⟩ := hft
  obtain ⟨au, cu, eu⟩ := hu.form
  obtain ⟨af, cf, ef⟩ := hf.form
  subst eu ef
  have HU := hid hu
  have HF := hid hf
  have P6 := hid p6
  have P8 := hid p8
  have F9 := hid f9
  clear hu hf hyes hfit p6 p8 f9
  go_enter Try.func10, Try.ntmps10
  go_wp2_with (refine wpList_load_row rfl 26 _ rfl w.heap.size (by rfl) 26 (x.cells _ _) (0, 0) _ HK.out Try.underlying26 rfl (by kernel_rfl) ?_)
  refine Calls.mono H.out ?_
  rintro e w1 ⟨rfl, hb1⟩
  have HB1 : Hid (Below w.heap.size w w1) := HB0.out.trans (hb1.mono HB0.out.size)
  have hks : w.heap.size < w1.heap.size := Nat.lt_of_lt_of_le (by simp) hb1.size
  have HK1 : Hid (w1.heap[w.heap.size]? = some (.cells (x.cells (.slice au uids.length cu) (.slice af flags.length cf)) 26)) := blk_below HK.out hb1
  clear hb1 HK H
  generalize hke : w.heap.size = k at HK1 ⊢
  clear hke
  rw [hx.out] at HK1
  have HKd : Hid (w1.drew.heap[k]? = some (.cells #[.int .i64 (op : Int), .int .u64 session, .int .u64 number, .int .i64 (node : Int), .int .u64 life, .int .u64 tried, .string (str box), .string (str dest), .int .u64 validity, .slice au uids.length cu, .slice af flags.length cf, .int .i64 (how : Int), .bool has, .int .u64 since, .string (str hash), .int .u64 size, .int .u64 sweeps] 26)) := HK1.out
  clear HK1
  have HW : Hid (Below w.heap.size w w1.drew) := HB1.out.drew
  clear HB1 hks
  have hw1 : IntKind.u64.wrap (op : Int) = (op : Int) := by rw [IntKind.wrap_u64]; omega
  have hw2 : IntKind.u64.wrap (node : Int) = (node : Int) := by rw [IntKind.wrap_u64]; omega
  have hw3 : IntKind.u64.wrap (how : Int) = (how : Int) := by rw [IntKind.wrap_u64]; omega
  have HN1 : Hid (∀ n ∈ ([op, session, number, node, life, tried] : List Nat), n < top64) := by
    intro n hn; simp at hn; unfold top64 at *; rcases hn with rfl | rfl | rfl | rfl | rfl | rfl <;> omega
  have HN2 : Hid (∀ n ∈ ([how, bitN has, since] : List Nat), n < top64) := by
    have hb : bitN has ≤ 1 := by unfold bitN; split <;> omega
    intro n hn; simp at hn; unfold top64 at *; rcases hn with rfl | rfl | rfl <;> omega
  have HN3 : Hid (∀ n ∈ ([size, sweeps] : List Nat), n < top64) := by
    intro n hn; simp at hn; unfold top64 at *; rcases hn with rfl | rfl <;> omega
  have l1 : ((([op, session, number, node, life, tried] : List Nat).map num).flatten).length ≤ 60 := Nat.le_trans (flat_len _) (by simp)
  have l2 : ((([how, bitN has, since] : List Nat).map num).flatten).length ≤ 30 := Nat.le_trans (flat_len _) (by simp)
  have l3 : ((([size, sweeps] : List Nat).map num).flatten).length ≤ 20 := Nat.le_trans (flat_len _) (by simp)
  have l4 := text_len box
  have l5 := text_len dest
  have l6 := text_len hash
  have l7 := num_len validity
  have l8 : (listB rgBytes uids).length ≤ 10 + 1000100 * uids.length := by
    unfold listB; rw [List.length_append]
    have := num_len uids.length
    have := flat_le rgBytes 1000100 uids (fun r hr => rgBytes_le r (F9.out r hr))
    omega
  have l9 : (listB text flags).length ≤ 10 + 1000100 * flags.length := by
    unfold listB; rw [List.length_append]
    have := num_len flags.length
    have := flat_le text 1000100 flags (fun r hr => text_le r (by have := P8.out r hr; unfold okTx; omega))
    omega
  have hxb : Hid (x.bytes = (([op, session, number, node, life, tried] : List Nat).map num).flatten ++ text box ++ text dest ++ num validity ++ (listB rgBytes uids ++ listB text flags) ++ (([how, bitN has, since] : List Nat).map num).flatten ++ text hash ++ (([size, sweeps] : List Nat).map num).flatten) := by
    show x.bytes = _
    rw [hx.out]
    rfl
  have C1 := hid (fun (W : World) (g : Nat) hW => wnums_any [op, session, number, node, life, tried] (.slice (some ⟨g, 0, none⟩) 6 6) W (HoldsU.of_block (W := W) (k := g) [op, session, number, node, life, tried] #[.int .u64 op, .int .u64 session, .int .u64 number, .int .u64 node, .int .u64 life, .int .u64 tried] (t := 22) hW rfl HN1.out 6 rfl (by simp)))
  have C2 := hid (fun (W : World) (g : Nat) hW => wnums_any [how, bitN has, since] (.slice (some ⟨g, 0, none⟩) 3 3) W (HoldsU.of_block (W := W) (k := g) [how, bitN has, since] #[.int .u64 how, .int .u64 (bitN has), .int .u64 since] (t := 22) hW rfl HN2.out 3 rfl (by simp)))
  have C3 := hid (fun (W : World) (g : Nat) hW => wnums_any [size, sweeps] (.slice (some ⟨g, 0, none⟩) 2 2) W (HoldsU.of_block (W := W) (k := g) [size, sweeps] #[.int .u64 size, .int .u64 sweeps] (t := 22) hW rfl HN3.out 2 rfl (by simp)))
  clear HN1 HN2 HN3
  generalize (([op, session, number, node, life, tried] : List Nat).map num).flatten = A1 at *
  generalize (([how, bitN has, since] : List Nat).map num).flatten = A2 at *
  generalize (([size, sweeps] : List Nat).map num).flatten = A3 at *
  have HCO3 : Hid (∀ W : World, W.heap[k]? = some (.cells #[.int .i64 (op : Int), .int .u64 session, .int .u64 number, .int .i64 (node : Int), .int .u64 life, .int .u64 tried, .string (str box), .string (str dest), .int .u64 validity, .slice au uids.length cu, .slice af flags.length cf, .int .i64 (how : Int), .bool has, .int .u64 since, .string (str hash), .int .u64 size, .int .u64 sweeps] 26) → W.cell? ⟨k, 0, none⟩ = some (.int .i64 (op : Int)) ∧ W.cell? ⟨k, 1, none⟩ = some (.int .u64 session) ∧ W.cell? ⟨k, 2, none⟩ = some (.int .u64 number) ∧ W.cell? ⟨k, 3, none⟩ = some (.int .i64 (node : Int)) ∧ W.cell? ⟨k, 4, none⟩ = some (.int .u64 life) ∧ W.cell? ⟨k, 5, none⟩ = some (.int .u64 tried) ∧ W.cell? ⟨k, 6, none⟩ = some (.string (str box)) ∧ W.cell? ⟨k, 7, none⟩ = some (.string (str dest)) ∧ W.cell? ⟨k, 8, none⟩ = some (.int .u64 validity)) := fun W h => ⟨cell_in h 0 _ rfl, cell_in h 1 _ rfl, cell_in h 2 _ rfl, cell_in h 3 _ rfl, cell_in h 4 _ rfl, cell_in h 5 _ rfl, cell_in h 6 _ rfl, cell_in h 7 _ rfl, cell_in h 8 _ rfl⟩
  have HCO4 : Hid (∀ W : World, W.heap[k]? = some (.cells #[.int .i64 (op : Int), .int .u64 session, .int .u64 number, .int .i64 (node : Int), .int .u64 life, .int .u64 tried, .string (str box), .string (str dest), .int .u64 validity, .slice au uids.length cu, .slice af flags.length cf, .int .i64 (how : Int), .bool has, .int .u64 since, .string (str hash), .int .u64 size, .int .u64 sweeps] 26) → W.cell? ⟨k, 9, none⟩ = some (.slice au uids.length cu) ∧ W.cell? ⟨k, 10, none⟩ = some (.slice af flags.length cf)) := fun W h => ⟨cell_in h 9 _ rfl, cell_in h 10 _ rfl⟩
  have HCO5 : Hid (∀ W : World, W.heap[k]? = some (.cells #[.int .i64 (op : Int), .int .u64 session, .int .u64 number, .int .i64 (node : Int), .int .u64 life, .int .u64 tried, .string (str box), .string (str dest), .int .u64 validity, .slice au uids.length cu, .slice af flags.length cf, .int .i64 (how : Int), .bool has, .int .u64 since, .string (str hash), .int .u64 size, .int .u64 sweeps] 26) → W.cell? ⟨k, 11, none⟩ = some (.int .i64 (how : Int)) ∧ W.cell? ⟨k, 12, none⟩ = some (.bool has) ∧ W.cell? ⟨k, 13, none⟩ = some (.int .u64 since) ∧ W.cell? ⟨k, 14, none⟩ = some (.string (str hash)) ∧ W.cell? ⟨k, 15, none⟩ = some (.int .u64 size) ∧ W.cell? ⟨k, 16, none⟩ = some (.int .u64 sweeps)) := fun W h => ⟨cell_in h 11 _ rfl, cell_in h 12 _ rfl, cell_in h 13 _ rfl, cell_in h 14 _ rfl, cell_in h 15 _ rfl, cell_in h 16 _ rfl⟩
  generalize B1e : A1 ++ text box = B1
  have e1 : str A1 ++ str (text box) = str B1 := by rw [str_append, B1e]
  have b1 : B1.length ≤ 200 := by rw [← B1e, List.length_append]; omega
  generalize B2e : B1 ++ text dest = B2
  have e2 : str B1 ++ str (text dest) = str B2 := by rw [str_append, B2e]
  have b2 : B2.length ≤ 300 := by rw [← B2e, List.length_append]; omega
  generalize B3e : B2 ++ num validity = B3
  have e3 : str B2 ++ str (num validity) = str B3 := by rw [str_append, B3e]
  have b3 : B3.length ≤ 400 := by rw [← B3e, List.length_append]; omega
  have HB3 := hid (show B3 = A1 ++ text box ++ text dest ++ num validity by rw [← B3e, ← B2e, ← B1e])
  clear B1e B2e B3e
  have z1 : (str A1).size = A1.length := str_size _
  have z2 : (str (text box)).size = (text box).length := str_size _
  have z3 : (str (text dest)).size = (text dest).length := str_size _
  have z4 : (str (num validity)).size = (num validity).length := str_size _
  have z5 : (str B1).size = B1.length := str_size _
  have z6 : (str B2).size = B2.length := str_size _
  have s1 : ¬ (9223372036854775807 < A1.length + (text box).length) := by omega
  have s2 : ¬ (9223372036854775807 < B1.length + (text dest).length) := by omega
  have s3 : ¬ (9223372036854775807 < B2.length + (num validity).length) := by omega
  go_wp2_with fail
  have tok1 : True := trivial
  go_region_held3 (fun W => W.cell? ⟨k, 0, none⟩ = some (.int .i64 (op : Int)) ∧ W.cell? ⟨k, 1, none⟩ = some (.int .u64 session) ∧ W.cell? ⟨k, 2, none⟩ = some (.int .u64 number) ∧ W.cell? ⟨k, 3, none⟩ = some (.int .i64 (node : Int)) ∧ W.cell? ⟨k, 4, none⟩ = some (.int .u64 life) ∧ W.cell? ⟨k, 5, none⟩ = some (.int .u64 tried) ∧ W.cell? ⟨k, 6, none⟩ = some (.string (str box)) ∧ W.cell? ⟨k, 7, none⟩ = some (.string (str dest)) ∧ W.cell? ⟨k, 8, none⟩ = some (.int .u64 validity)) (first | exact HCO3.out _ HKd.out | exact HCO3.out _ (blk_alloc HKd.out _) | exact HCO3.out _ HK2.out | exact HCO3.out _ HK3.out | exact HCO3.out _ HK4.out | exact HCO3.out _ HK5.out)
    (first
    | (go_at_call 22; refine Calls.mono (C1.out _ _ (by exact heap_alloc_new w1 _)) ?_; rintro e w2 ⟨rfl, hb2⟩; have HK2 := hid (blk_below (blk_alloc HKd.out _) hb2); have HW2 := hid ((HW.out.alloc HW.out.size _).trans (hb2.mono (Nat.le_trans HW.out.size (by simp)))); clear hb2)
    | (go_at_call 23; have _t := tok1; clear _t tok1; refine Calls.mono (text_any box (by omega) _) ?_; rintro e w3 ⟨rfl, hb3⟩; have HK3 := hid (blk_below HK2.out hb3); have HW3 := hid (HW2.out.trans (hb3.mono HW2.out.size)); clear hb3)
    | (go_at_call 23; refine Calls.mono (text_any dest (by omega) _) ?_; rintro e w4 ⟨rfl, hb4⟩; have HK4 := hid (blk_below HK3.out hb4); have HW4 := hid (HW3.out.trans (hb4.mono HW3.out.size)); clear hb4)
    | (go_at_call 24; refine Calls.mono (num_any validity f5 _) ?_; rintro e w5 ⟨rfl, hb5⟩; have HK5 := hid (blk_below HK4.out hb5); have HW5 := hid (HW4.out.trans (hb5.mono HW4.out.size)); clear hb5))
  clear HK2 HK3 HK4 HW2 HW3 HW4 HCO3 C1
  go_wp2_with fail
  have HKd5 : Hid (w5.drew.heap[k]? = some (.cells #[.int .i64 (op : Int), .int .u64 session, .int .u64 number, .int .i64 (node : Int), .int .u64 life, .int .u64 tried, .string (str box), .string (str dest), .int .u64 validity, .slice au uids.length cu, .slice af flags.length cf, .int .i64 (how : Int), .bool has, .int .u64 since, .string (str hash), .int .u64 size, .int .u64 sweeps] 26)) := HK5.out
  have HWd5 : Hid (Below w.heap.size w w5.drew) := HW5.out.drew
  have HU5 := hid (HU.out.kept (w' := w5.drew) (fun j hj _ => HWd5.out.block j hj))
  clear HK5 HW5 HU e1 e2 e3 s1 s2 s3 z1 z2 z3 z4 z5 z6
  generalize M1e : listB rgBytes uids ++ listB text flags = M1
  have e1 : str (listB rgBytes uids) ++ str (listB text flags) = str M1 := by rw [str_append, M1e]
  have m1 : M1.length ≤ 100000000 := by rw [← M1e, List.length_append]; omega
  generalize B4e : B3 ++ M1 = B4
  have e2 : str B3 ++ str M1 = str B4 := by rw [str_append, B4e]
  have b4 : B4.length ≤ 100001000 := by rw [← B4e, List.length_append]; omega
  have HB4 := hid (show B4 = A1 ++ text box ++ text dest ++ num validity ++ (listB rgBytes uids ++ listB text flags) by rw [← B4e, ← M1e, HB3.out])
  clear M1e B4e
  have z1 : (str (listB rgBytes uids)).size = (listB rgBytes uids).length := str_size _
  have z2 : (str (listB text flags)).size = (listB text flags).length := str_size _
  have z3 : (str M1).size = M1.length := str_size _
  have z4 : (str B3).size = B3.length := str_size _
  have s1 : ¬ (9223372036854775807 < (listB rgBytes uids).length + (listB text flags).length) := by omega
  have s2 : ¬ (9223372036854775807 < B3.length + M1.length) := by omega
  go_region_held3 (fun W => W.cell? ⟨k, 9, none⟩ = some (.slice au uids.length cu) ∧ W.cell? ⟨k, 10, none⟩ = some (.slice af flags.length cf)) (first | exact HCO4.out _ HKd5.out | exact HCO4.out _ HK6.out | exact HCO4.out _ HK7.out)
    (first
    | (go_at_call 25; refine Calls.mono (listRanges_any uids _ _ D HU5.out (by omega) F9.out) ?_; rintro e w6 ⟨rfl, hb6⟩; have HK6 := hid (blk_below HKd5.out hb6); have HW6 := hid (HWd5.out.trans (hb6.mono HWd5.out.size)); clear hb6)
    | (go_at_call 27; refine Calls.mono (listFlags_any flags _ _ D (HF.out.kept (fun j hj _ => HW6.out.block j hj)) (by omega) (fun r hr => by have := P8.out r hr; unfold okTx; omega)) ?_; rintro e w7 ⟨rfl, hb7⟩; have HK7 := hid (blk_below HK6.out hb7); have HW7 := hid (HW6.out.trans (hb7.mono HW6.out.size)); clear hb7))
  go_wp2_with fail
  have HKd : Hid (w7.drew.heap[k]? = some (.cells #[.int .i64 (op : Int), .int .u64 session, .int .u64 number, .int .i64 (node : Int), .int .u64 life, .int .u64 tried, .string (str box), .string (str dest), .int .u64 validity, .slice au uids.length cu, .slice af flags.length cf, .int .i64 (how : Int), .bool has, .int .u64 since, .string (str hash), .int .u64 size, .int .u64 sweeps] 26)) := HK7.out
  have HWd : Hid (Below w.heap.size w w7.drew) := HW7.out.drew
  clear HK7 HW7 HK6 HW6 HKd5 HWd5 HU5 HF HCO4 e1 e2 s1 s2 z1 z2 z3 z4
  generalize B5e : B4 ++ A2 = B5
  have e1 : str B4 ++ str A2 = str B5 := by rw [str_append, B5e]
  have b5 : B5.length ≤ 100002000 := by rw [← B5e, List.length_append]; omega
  generalize B6e : B5 ++ text hash = B6
  have e2 : str B5 ++ str (text hash) = str B6 := by rw [str_append, B6e]
  have b6 : B6.length ≤ 100003000 := by rw [← B6e, List.length_append]; omega
  generalize B7e : B6 ++ A3 = B7
  have e3 : str B6 ++ str A3 = str B7 := by rw [str_append, B7e]
  have HB7 := hid (show x.bytes = B7 by rw [hxb.out, ← B7e, ← B6e, ← B5e, HB4.out])
  clear B5e B6e B7e
  have z1 : (str B4).size = B4.length := str_size _
  have z2 : (str A2).size = A2.length := str_size _
  have z3 : (str B5).size = B5.length := str_size _
  have z4 : (str (text hash)).size = (text hash).length := str_size _
  have z5 : (str B6).size = B6.length := str_size _
  have z6 : (str A3).size = A3.length := str_size _
  have s1 : ¬ (9223372036854775807 < B4.length + A2.length) := by omega
  have s2 : ¬ (9223372036854775807 < B5.length + (text hash).length) := by omega
  have s3 : ¬ (9223372036854775807 < B6.length + A3.length) := by omega
  have tok1 : True := trivial
  go_region_held3 (fun W => W.cell? ⟨k, 11, none⟩ = some (.int .i64 (how : Int)) ∧ W.cell? ⟨k, 12, none⟩ = some (.bool has) ∧ W.cell? ⟨k, 13, none⟩ = some (.int .u64 since) ∧ W.cell? ⟨k, 14, none⟩ = some (.string (str hash)) ∧ W.cell? ⟨k, 15, none⟩ = some (.int .u64 size) ∧ W.cell? ⟨k, 16, none⟩ = some (.int .u64 sweeps)) (first | exact HCO5.out _ HKd.out | exact HCO5.out _ (blk_alloc HKd.out _) | exact HCO5.out _ (blk_alloc (blk_alloc HKd.out _) _) | exact HCO5.out _ HK8.out | exact HCO5.out _ (blk_alloc HK8.out _) | exact HCO5.out _ HK9.out | exact HCO5.out _ (blk_alloc HK9.out _) | exact HCO5.out _ HK10.out)
    (first
    | (go_at_call 28; refine Calls.mono (bit_any has _) ?_; rintro e w' ⟨rfl, rfl⟩)
    | (go_at_call 22; have _t := tok1; clear _t tok1; refine Calls.mono (C2.out _ _ (by first | exact heap_alloc_new w7 _ | exact blk_alloc (heap_alloc_new w7 _) _ | exact heap_alloc2_new w7 _ _)) ?_; rintro e w8 ⟨rfl, hb8⟩; have HK8 := hid (blk_below (o := .cells #[.int .i64 (op : Int), .int .u64 session, .int .u64 number, .int .i64 (node : Int), .int .u64 life, .int .u64 tried, .string (str box), .string (str dest), .int .u64 validity, .slice au uids.length cu, .slice af flags.length cf, .int .i64 (how : Int), .bool has, .int .u64 since, .string (str hash), .int .u64 size, .int .u64 sweeps] 26) (by first | exact blk_alloc HKd.out _ | exact blk_alloc (blk_alloc HKd.out _) _) hb8); (first | (have HS2 : Hid (w8.heap[w7.heap.size + 1]? = some (.cells #[.int .u64 size, .int .u64 sweeps] 22)) := blk_below (by exact heap_alloc2_new w7 _ _) hb8) | (have HS2 : Hid (w8.heap[w7.heap.size]? = some (.cells #[.int .u64 size, .int .u64 sweeps] 22)) := blk_below (by exact blk_alloc (heap_alloc_new w7 _) _) hb8) | skip); have HW8 : Hid (Below w.heap.size w w8) := (by first | exact (HWd.out.alloc HWd.out.size _).trans (hb8.mono (Nat.le_trans HWd.out.size (by simp))) | exact ((HWd.out.alloc HWd.out.size _).alloc (Nat.le_trans HWd.out.size (by simp)) _).trans (hb8.mono (Nat.le_trans HWd.out.size (by simp; omega)))); clear hb8)
    | (go_at_call 23; refine Calls.mono (text_any hash (by omega) _) ?_; rintro e w9 ⟨rfl, hb9⟩; have HK9 := hid (blk_below (o := .cells #[.int .i64 (op : Int), .int .u64 session, .int .u64 number, .int .i64 (node : Int), .int .u64 life, .int .u64 tried, .string (str box), .string (str dest), .int .u64 validity, .slice au uids.length cu, .slice af flags.length cf, .int .i64 (how : Int), .bool has, .int .u64 since, .string (str hash), .int .u64 size, .int .u64 sweeps] 26) (by first | exact HK8.out | exact blk_alloc HK8.out _) hb9); (first | (have HS3 := hid (blk_below HS2.out hb9)) | (have HS3 : Hid (w9.heap[w8.heap.size]? = some (.cells #[.int .u64 size, .int .u64 sweeps] 22)) := blk_below (by exact heap_alloc_new w8 _) hb9) | skip); have HW9 : Hid (Below w.heap.size w w9) := (by first | exact HW8.out.trans (hb9.mono HW8.out.size) | exact (HW8.out.alloc HW8.out.size _).trans (hb9.mono (Nat.le_trans HW8.out.size (by simp)))); clear hb9)
    | (go_at_call 22; refine Calls.mono (C3.out _ _ (by first | exact HS3.out | exact heap_alloc_new w9 _)) ?_; rintro e w10 ⟨rfl, hb10⟩; have HK10 := hid (blk_below (o := .cells #[.int .i64 (op : Int), .int .u64 session, .int .u64 number, .int .i64 (node : Int), .int .u64 life, .int .u64 tried, .string (str box), .string (str dest), .int .u64 validity, .slice au uids.length cu, .slice af flags.length cf, .int .i64 (how : Int), .bool has, .int .u64 since, .string (str hash), .int .u64 size, .int .u64 sweeps] 26) (by first | exact HK9.out | exact blk_alloc HK9.out _) hb10); have HW10 : Hid (Below w.heap.size w w10) := (by first | exact HW9.out.trans (hb10.mono HW9.out.size) | exact (HW9.out.alloc HW9.out.size _).trans (hb10.mono (Nat.le_trans HW9.out.size (by simp)))); clear hb10))
  all_goals (go_wp2_with fail)
  all_goals (go_ret2; rw [HB7.out]; exact ⟨rfl, HW10.out⟩)
def rqWrite (x : Rq) : Bytes × Nat := if mayRq x = true then (x.bytes, 0) else ([], 1)
theorem writeRq_any (x : Rq) (vu vf : Value) (w : World) (D : List Nat) (hu : Cells D w vu x.uids.length (rgVals x.uids)) (hf : Cells D w vf x.flags.length (strVals x.flags)) (hul : x.uids.length ≤ 1152921504606846976) (hfl : x.flags.length ≤ 1152921504606846976) (hm : ∀ f ∈ x.flags, f.length ≤ maxLen)
    (hb : x.box.length ≤ maxLen) (hd : x.dest.length ≤ maxLen) (hh : x.hash.length ≤ maxLen) (hfit : x.fit) :
    Calls Try.prog 10 #[.agg (x.cells vu vf)] w fun e w' => e = .returned (.tuple #[.string (str (rqWrite x).1), .int .i64 ((rqWrite x).2 : Nat)]) ∧ Below w.heap.size w w' := by
  unfold rqWrite
  cases hy : mayRq x
  · rw [if_neg (by simp)]
    exact writeRq_no x vu vf w D hu hf hul hfl hm hb hd hh hy
  · rw [if_pos rfl]
    have hp := mayRq_parts hy
    obtain ⟨op, session, number, node, life, tried, box, dest, validity, uids, flags, how, has, since, hash, size, sweeps⟩ := x
    obtain ⟨n0, rfl⟩ := Int.eq_ofNat_of_zero_le hp.1.1
    obtain ⟨n3, rfl⟩ := Int.eq_ofNat_of_zero_le hp.2.1.1
    obtain ⟨n11, rfl⟩ := Int.eq_ofNat_of_zero_le hp.2.2.2.2.2.2.2.2.1.1
    exact writeRq_at n0 session number n3 life tried validity n11 since size sweeps box dest hash uids flags has _ (hid rfl) vu vf w D hu hf hy hfit
end Go.Proofs.Ytgkapgfpalbkjaa
