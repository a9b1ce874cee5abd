/-
  The walk of wire.Message.
-/
import Derived.Test.YtgkapgfpalbkjaaWMayMs
import Derived.Test.YtgkapgfpalbkjaaWWriteRq
import Derived.Test.YtgkapgfpalbkjaaFrame
namespace Go.Proofs.Ytgkapgfpalbkjaa
open Go.RowKit
set_option linter.unusedVariables false
set_option linter.unusedSimpArgs false
/-- a message's bytes, within its frame -/
def Ms.body (x : Ms) : Bytes :=
  ([x.kind.toNat, x.src.toNat, x.dest.toNat, x.term, x.index, x.logTerm, x.commit, bitN x.ok].map num).flatten ++ listB enBytes x.entries ++ (listB cfBytes x.conf ++ ([x.offset.toNat, x.size.toNat].map num).flatten ++ text x.data)
/-- what the numbers of a message must be, whatever they are -/
def Ms.fit (x : Ms) : Prop := x.term < top64 ∧ x.index < top64 ∧ x.logTerm < top64 ∧ x.commit < top64 ∧ (∀ e ∈ x.entries, e.term < top64)
theorem mayMs_parts {x : Ms} (h : mayMs x = true) : (1 ≤ x.kind ∧ x.kind ≤ 11) ∧ (1 ≤ x.src ∧ x.src ≤ 5) ∧ (1 ≤ x.dest ∧ x.dest ≤ 5) ∧ x.entries.length ≤ 8 ∧ (∀ e ∈ x.entries, 1 ≤ e.kind ∧ e.kind ≤ 3 ∧ e.data.length ≤ 2048) ∧ x.conf.length ≤ 5 ∧ (∀ n ∈ x.conf, 1 ≤ n ∧ n ≤ 5) ∧ (0 ≤ x.offset ∧ x.offset ≤ 262144) ∧ (0 ≤ x.size ∧ x.size ≤ 262144) ∧ x.data.length ≤ 4096 := by
  unfold mayMs withinB at h
  simp only [Bool.and_eq_true, decide_eq_true_eq, Bool.not_eq_true', List.any_eq_false] at h
  obtain ⟨h1, h2, h3, h4, h5, h6, h7, h8, h9, h10⟩ := h
  refine ⟨h1, h2, h3, h4, fun e he => ?_, h6, fun n hn => ?_, h8, h9, h10⟩
  · have := h5 e he
    unfold entryP at this
    simp only [Bool.or_eq_true, Bool.not_eq_true', Bool.and_eq_false_iff, decide_eq_false_iff_not, decide_eq_true_eq] at this
    omega
  · have := h7 n hn
    unfold nodeP at this
    simp only [Bool.not_eq_true', Bool.and_eq_false_iff, decide_eq_false_iff_not] at this
    omega
theorem frameE {u : Bytes} (hu : u.length ≤ maxLen) (w : World) :
    Calls Try.prog 53 #[.string (str u)] w fun x w' => x = .returned (.tuple #[.string (str (frameOf u).1), .int .i64 ((frameOf u).2 : Nat)]) ∧ Below w.heap.size w w' :=
  frame_any (str u) w (by rw [str_size]; exact hu)
set_option maxRecDepth 100000 in
set_option maxHeartbeats 4000000 in
theorem writeMs_no (x : Ms) (vu vf : Value) (w : World) (D : List Nat) (hu : Cells D w vu x.entries.length (enVals x.entries)) (hf : Cells D w vf x.conf.length (intVals x.conf)) (hul : x.entries.length ≤ 1152921504606846976) (hfl : x.conf.length ≤ 1152921504606846976) (hm : ∀ e ∈ x.entries, e.data.length ≤ maxLen)
    (hd : x.data.length ≤ maxLen) (hno : mayMs x = false) :
    Calls Try.prog 15 #[.agg (x.cells vu vf)] w fun e w' => e = .returned (.tuple #[.string (str []), .int .i64 1]) ∧ Below w.heap.size w w' := by
  have HB0 : Hid (Below w.heap.size w (w.alloc (.cells (x.cells vu vf) 32))) := (Below.refl _ _).alloc (Nat.le_refl _) _
  have HK := hid (heap_alloc_new w (.cells (x.cells vu vf) 32))
  have H := hid (mayMs_any x vu vf (w.alloc (.cells (x.cells vu vf) 32)) D (hu.below HB0.out) (hf.below HB0.out) hul hfl hm hd)
  obtain ⟨au, cu, eu⟩ := hu.form
  obtain ⟨af, cf, ef⟩ := hf.form
  subst eu ef
  rw [hno] at H
  clear hu hf hm hno
  go_enter Try.func15, Try.ntmps15
  go_wp2_with (refine wpList_load_row rfl 32 _ rfl w.heap.size (by rfl) 32 (x.cells _ _) (0, 0) _ HK.out Try.underlying32 rfl (by kernel_rfl) ?_)
  refine Calls.mono H.out ?_
  rintro e w1 ⟨rfl, hb1⟩
  go_wp2_with fail
  go_ret2
  exact ⟨rfl, HB0.out.trans (hb1.mono HB0.out.size)⟩
set_option maxRecDepth 100000 in
set_option maxHeartbeats 4000000 in
theorem writeMs_at (kind src dest term index logTerm commit offset size : Nat) (ok : Bool) (entries : List En) (conf : List Int) (data : Bytes) (x : Ms) (hx : Hid (x = ⟨kind, src, dest, term, index, logTerm, commit, ok, entries, conf, offset, size, data⟩))
    (vu vf : Value) (w : World) (D : List Nat) (hu : Cells D w vu entries.length (enVals entries)) (hf : Cells D w vf conf.length (intVals conf)) (hyes : mayMs x = true) (hfit : x.fit) :
    Calls Try.prog 15 #[.agg (x.cells vu vf)] w fun e w' => e = .returned (.tuple #[.string (str (frameOf x.body).1), .int .i64 ((frameOf x.body).2 : Nat)]) ∧ Below w.heap.size w w' := by
  have hp := mayMs_parts hyes
  have hft := hfit
  unfold Ms.fit at hft
  have HB0 : Hid (Below w.heap.size w (w.alloc (.cells (x.cells vu vf) 32))) := (Below.refl _ _).alloc (Nat.le_refl _) _
  have HK := hid (heap_alloc_new w (.cells (x.cells vu vf) 32))
  have hu' : Cells D w vu x.entries.length (enVals x.entries) := by rw [hx.out]; exact hu
  have hf' : Cells D w vf x.conf.length (intVals x.conf) := by rw [hx.out]; exact hf
  have H := hid (mayMs_any x vu vf (w.alloc (.cells (x.cells vu vf) 32)) D (hu'.below HB0.out) (hf'.below HB0.out) (by omega) (by omega) (fun e h => by have := hp.2.2.2.2.1 e h; unfold maxLen; omega) (by unfold maxLen; omega))
  rw [hyes] at H
  clear hu' hf'
  rw [hx.out] at hp hft
  simp only at hp hft
  obtain ⟨⟨_, p1⟩, ⟨_, p2⟩, ⟨_, p3⟩, p4, p5, p6, p7, ⟨_, p8⟩, ⟨_, p9⟩, p10⟩ := hp
  obtain ⟨f1, f2, f3, f4, f9⟩ := hft
  obtain ⟨au, cu, eu⟩ := hu.form
  obtain ⟨af, cf, ef⟩ := hf.form
  subst eu ef
  have HU := hid hu
  have HF := hid hf
  have P5 := hid p5
  have P7 := hid p7
  have F9 := hid f9
  clear hu hf hyes hfit p5 p7 f9
  go_enter Try.func15, Try.ntmps15
  go_wp2_with (refine wpList_load_row rfl 32 _ rfl w.heap.size (by rfl) 32 (x.cells _ _) (0, 0) _ HK.out Try.underlying32 rfl (by kernel_rfl) ?_)
  refine Calls.mono H.out ?_
  rintro e w1 ⟨rfl, hb1⟩
  have HB1 : Hid (Below w.heap.size w w1) := HB0.out.trans (hb1.mono HB0.out.size)
  have HK1 : Hid (w1.heap[w.heap.size]? = some (.cells (x.cells (.slice au entries.length cu) (.slice af conf.length cf)) 32)) := blk_below HK.out hb1
  clear hb1 HK H HB0
  generalize hke : w.heap.size = k at HK1 ⊢
  clear hke
  rw [hx.out] at HK1
  have HKd : Hid (w1.drew.heap[k]? = some (.cells #[.int .i64 (kind : Int), .int .i64 (src : Int), .int .i64 (dest : Int), .int .u64 term, .int .u64 index, .int .u64 logTerm, .int .u64 commit, .bool ok, .slice au entries.length cu, .slice af conf.length cf, .int .i64 (offset : Int), .int .i64 (size : Int), .string (str data)] 32)) := HK1.out
  clear HK1
  have HW : Hid (Below w.heap.size w w1.drew) := HB1.out.drew
  clear HB1
  have hw1 : IntKind.u64.wrap (kind : Int) = (kind : Int) := by rw [IntKind.wrap_u64]; omega
  have hw2 : IntKind.u64.wrap (src : Int) = (src : Int) := by rw [IntKind.wrap_u64]; omega
  have hw3 : IntKind.u64.wrap (dest : Int) = (dest : Int) := by rw [IntKind.wrap_u64]; omega
  have hw4 : IntKind.u64.wrap (offset : Int) = (offset : Int) := by rw [IntKind.wrap_u64]; omega
  have hw5 : IntKind.u64.wrap (size : Int) = (size : Int) := by rw [IntKind.wrap_u64]; omega
  have HN1 : Hid (∀ n ∈ ([kind, src, dest, term, index, logTerm, commit, bitN ok] : List Nat), n < top64) := by
    have hb : bitN ok ≤ 1 := by unfold bitN; split <;> omega
    intro n hn; simp at hn; unfold top64 at *; rcases hn with rfl | rfl | rfl | rfl | rfl | rfl | rfl | rfl <;> omega
  have HN2 : Hid (∀ n ∈ ([offset, size] : List Nat), n < top64) := by
    intro n hn; simp at hn; unfold top64 at *; rcases hn with rfl | rfl <;> omega
  have l1 : ((([kind, src, dest, term, index, logTerm, commit, bitN ok] : List Nat).map num).flatten).length ≤ 80 := Nat.le_trans (flat_len _) (by simp)
  have l2 : ((([offset, size] : List Nat).map num).flatten).length ≤ 20 := Nat.le_trans (flat_len _) (by simp)
  have l4 := text_len data
  have hoe : Hid (∀ e ∈ entries, okEn e) := fun e he => by have h1 := P5.out e he; have h2 := F9.out e he; unfold okEn; omega
  have hoc : Hid (∀ n ∈ conf, okCf n) := fun n hn => by have h1 := P7.out n hn; unfold okCf; omega
  have l8 : (listB enBytes entries).length ≤ 10 + 1000100 * entries.length := by
    unfold listB; rw [List.length_append]
    have := num_len entries.length
    have := flat_le enBytes 1000100 entries (fun r hr => enBytes_le r (hoe.out r hr))
    omega
  have l9 : (listB cfBytes conf).length ≤ 10 + 1000100 * conf.length := by
    unfold listB; rw [List.length_append]
    have := num_len conf.length
    have := flat_le cfBytes 1000100 conf (fun r hr => cfBytes_le r (hoc.out r hr))
    omega
  have hxb : Hid (x.body = (([kind, src, dest, term, index, logTerm, commit, bitN ok] : List Nat).map num).flatten ++ listB enBytes entries ++ (listB cfBytes conf ++ (([offset, size] : List Nat).map num).flatten ++ text data)) := by
    show x.body = _
    rw [hx.out]
    rfl
  have C1 := hid (fun (W : World) (g : Nat) hW => wnums_any [kind, src, dest, term, index, logTerm, commit, bitN ok] (.slice (some ⟨g, 0, none⟩) 8 8) W (HoldsU.of_block (W := W) (k := g) [kind, src, dest, term, index, logTerm, commit, bitN ok] #[.int .u64 kind, .int .u64 src, .int .u64 dest, .int .u64 term, .int .u64 index, .int .u64 logTerm, .int .u64 commit, .int .u64 (bitN ok)] (t := 22) hW rfl HN1.out 8 rfl (by simp)))
  have C2 := hid (fun (W : World) (g : Nat) hW => wnums_any [offset, size] (.slice (some ⟨g, 0, none⟩) 2 2) W (HoldsU.of_block (W := W) (k := g) [offset, size] #[.int .u64 offset, .int .u64 size] (t := 22) hW rfl HN2.out 2 rfl (by simp)))
  clear HN1 HN2
  generalize (([kind, src, dest, term, index, logTerm, commit, bitN ok] : List Nat).map num).flatten = A1 at *
  generalize (([offset, size] : List Nat).map num).flatten = A2 at *
  have HCO3 : Hid (∀ W : World, W.heap[k]? = some (.cells #[.int .i64 (kind : Int), .int .i64 (src : Int), .int .i64 (dest : Int), .int .u64 term, .int .u64 index, .int .u64 logTerm, .int .u64 commit, .bool ok, .slice au entries.length cu, .slice af conf.length cf, .int .i64 (offset : Int), .int .i64 (size : Int), .string (str data)] 32) → W.cell? ⟨k, 0, none⟩ = some (.int .i64 (kind : Int)) ∧ W.cell? ⟨k, 1, none⟩ = some (.int .i64 (src : Int)) ∧ W.cell? ⟨k, 2, none⟩ = some (.int .i64 (dest : Int)) ∧ W.cell? ⟨k, 3, none⟩ = some (.int .u64 term) ∧ W.cell? ⟨k, 4, none⟩ = some (.int .u64 index) ∧ W.cell? ⟨k, 5, none⟩ = some (.int .u64 logTerm) ∧ W.cell? ⟨k, 6, none⟩ = some (.int .u64 commit) ∧ W.cell? ⟨k, 7, none⟩ = some (.bool ok)) := fun W h => ⟨cell_in h 0 _ rfl, cell_in h 1 _ rfl, cell_in h 2 _ rfl, cell_in h 3 _ rfl, cell_in h 4 _ rfl, cell_in h 5 _ rfl, cell_in h 6 _ rfl, cell_in h 7 _ rfl⟩
  have HCO5 : Hid (∀ W : World, W.heap[k]? = some (.cells #[.int .i64 (kind : Int), .int .i64 (src : Int), .int .i64 (dest : Int), .int .u64 term, .int .u64 index, .int .u64 logTerm, .int .u64 commit, .bool ok, .slice au entries.length cu, .slice af conf.length cf, .int .i64 (offset : Int), .int .i64 (size : Int), .string (str data)] 32) → W.cell? ⟨k, 9, none⟩ = some (.slice af conf.length cf) ∧ W.cell? ⟨k, 10, none⟩ = some (.int .i64 (offset : Int)) ∧ W.cell? ⟨k, 11, none⟩ = some (.int .i64 (size : Int)) ∧ W.cell? ⟨k, 12, none⟩ = some (.string (str data))) := fun W h => ⟨cell_in h 9 _ rfl, cell_in h 10 _ rfl, cell_in h 11 _ rfl, cell_in h 12 _ rfl⟩
  go_wp2_with fail
  go_region_held3 (fun W => W.cell? ⟨k, 0, none⟩ = some (.int .i64 (kind : Int)) ∧ W.cell? ⟨k, 1, none⟩ = some (.int .i64 (src : Int)) ∧ W.cell? ⟨k, 2, none⟩ = some (.int .i64 (dest : Int)) ∧ W.cell? ⟨k, 3, none⟩ = some (.int .u64 term) ∧ W.cell? ⟨k, 4, none⟩ = some (.int .u64 index) ∧ W.cell? ⟨k, 5, none⟩ = some (.int .u64 logTerm) ∧ W.cell? ⟨k, 6, none⟩ = some (.int .u64 commit) ∧ W.cell? ⟨k, 7, none⟩ = some (.bool ok)) (first | exact HCO3.out _ HKd.out | exact HCO3.out _ (blk_alloc HKd.out _) | exact HCO3.out _ HK2.out)
    (first
    | (go_at_call 28; refine Calls.mono (bit_any ok _) ?_; rintro e w' ⟨rfl, rfl⟩)
    | (go_at_call 22; refine Calls.mono (C1.out _ _ (by exact heap_alloc_new w1 _)) ?_; rintro e w2 ⟨rfl, hb2⟩; have HK2 := hid (blk_below (blk_alloc HKd.out _) hb2); have HW2 := hid ((HW.out.alloc HW.out.size _).trans (hb2.mono (Nat.le_trans HW.out.size (by simp)))); clear hb2))
  clear HCO3 C1
  have c8 : w2.cell? ⟨k, 8, none⟩ = some (.slice au entries.length cu) := cell_in HK2.out 8 _ rfl
  have HU2 := hid (HU.out.kept (fun j hj _ => HW2.out.block j hj))
  generalize B1e : A1 ++ listB enBytes entries = B1
  have e1 : str A1 ++ str (listB enBytes entries) = str B1 := by rw [str_append, B1e]
  have b1 : B1.length ≤ 10000000 := by rw [← B1e, List.length_append]; omega
  have z1 : (str A1).size = A1.length := str_size _
  have z2 : (str (listB enBytes entries)).size = (listB enBytes entries).length := str_size _
  have s1 : ¬ (9223372036854775807 < A1.length + (listB enBytes entries).length) := by omega
  go_wp2_with fail
  refine Calls.mono (listEntries_any entries _ _ D HU2.out (by omega) hoe.out) ?_
  rintro e w3 ⟨rfl, hb3⟩
  have HK3 : Hid (w3.drew.heap[k]? = some (.cells #[.int .i64 (kind : Int), .int .i64 (src : Int), .int .i64 (dest : Int), .int .u64 term, .int .u64 index, .int .u64 logTerm, .int .u64 commit, .bool ok, .slice au entries.length cu, .slice af conf.length cf, .int .i64 (offset : Int), .int .i64 (size : Int), .string (str data)] 32)) := (show w3.heap[k]? = _ from blk_below HK2.out hb3)
  have HW3 : Hid (Below w.heap.size w w3.drew) := (HW2.out.trans (hb3.mono HW2.out.size)).drew
  clear hb3 c8 HK2 HW2 HU2 HU HKd HW
  go_wp2_with fail
  clear e1 z1 z2 s1
  have HF3 := hid (HF.out.kept (fun j hj _ => HW3.out.block j hj))
  clear HF
  generalize M1e : listB cfBytes conf ++ A2 = M1
  have e1 : str (listB cfBytes conf) ++ str A2 = str M1 := by rw [str_append, M1e]
  have m1 : M1.length ≤ 10000000 := by rw [← M1e, List.length_append]; omega
  generalize M2e : M1 ++ text data = M2
  have e2 : str M1 ++ str (text data) = str M2 := by rw [str_append, M2e]
  have m2 : M2.length ≤ 20000000 := by rw [← M2e, List.length_append]; omega
  generalize B2e : B1 ++ M2 = B2
  have e3 : str B1 ++ str M2 = str B2 := by rw [str_append, B2e]
  have b2 : B2.length ≤ 40000000 := by rw [← B2e, List.length_append]; omega
  have HB2 := hid (show x.body = B2 by rw [hxb.out, ← B2e, ← M2e, ← M1e, ← B1e])
  clear B1e M1e M2e B2e
  have z1 : (str (listB cfBytes conf)).size = (listB cfBytes conf).length := str_size _
  have z2 : (str A2).size = A2.length := str_size _
  have z3 : (str M1).size = M1.length := str_size _
  have z4 : (str (text data)).size = (text data).length := str_size _
  have z5 : (str B1).size = B1.length := str_size _
  have z6 : (str M2).size = M2.length := str_size _
  have s1 : ¬ (9223372036854775807 < (listB cfBytes conf).length + A2.length) := by omega
  have s2 : ¬ (9223372036854775807 < M1.length + (text data).length) := by omega
  have s3 : ¬ (9223372036854775807 < B1.length + M2.length) := by omega
  go_region_held3 (fun W => W.cell? ⟨k, 9, none⟩ = some (.slice af conf.length cf) ∧ W.cell? ⟨k, 10, none⟩ = some (.int .i64 (offset : Int)) ∧ W.cell? ⟨k, 11, none⟩ = some (.int .i64 (size : Int)) ∧ W.cell? ⟨k, 12, none⟩ = some (.string (str data))) (first | exact HCO5.out _ HK3.out | exact HCO5.out _ (blk_alloc HK3.out _) | exact HCO5.out _ HK4.out | exact HCO5.out _ (blk_alloc HK4.out _) | exact HCO5.out _ HK5.out | exact HCO5.out _ HK6.out)
    (first
    | (go_at_call 51; refine Calls.mono (listConfs_any conf _ _ D (by first | exact HF3.out | exact HF3.out.below ((Below.refl _ _).alloc (Nat.le_refl _) _)) (by omega) hoc.out) ?_; rintro e w4 ⟨rfl, hb4⟩; have HK4 := hid (blk_below (o := .cells #[.int .i64 (kind : Int), .int .i64 (src : Int), .int .i64 (dest : Int), .int .u64 term, .int .u64 index, .int .u64 logTerm, .int .u64 commit, .bool ok, .slice au entries.length cu, .slice af conf.length cf, .int .i64 (offset : Int), .int .i64 (size : Int), .string (str data)] 32) (by first | exact HK3.out | exact blk_alloc HK3.out _) hb4); (first | (have HS4 : Hid (w4.heap[w3.heap.size]? = some (.cells #[.int .u64 offset, .int .u64 size] 22)) := blk_below (by exact heap_alloc_new w3 _) hb4) | skip); have HW4 : Hid (Below w.heap.size w w4) := (by first | exact HW3.out.trans (hb4.mono HW3.out.size) | exact (HW3.out.alloc HW3.out.size _).trans (hb4.mono (Nat.le_trans HW3.out.size (by simp)))); clear hb4)
    | (go_at_call 22; refine Calls.mono (C2.out _ _ (by first | exact HS4.out | exact heap_alloc_new w4 _)) ?_; rintro e w5 ⟨rfl, hb5⟩; have HK5 := hid (blk_below (o := .cells #[.int .i64 (kind : Int), .int .i64 (src : Int), .int .i64 (dest : Int), .int .u64 term, .int .u64 index, .int .u64 logTerm, .int .u64 commit, .bool ok, .slice au entries.length cu, .slice af conf.length cf, .int .i64 (offset : Int), .int .i64 (size : Int), .string (str data)] 32) (by first | exact HK4.out | exact blk_alloc HK4.out _) hb5); have HW5 : Hid (Below w.heap.size w w5) := (by first | exact HW4.out.trans (hb5.mono HW4.out.size) | exact (HW4.out.alloc HW4.out.size _).trans (hb5.mono (Nat.le_trans HW4.out.size (by simp)))); clear hb5)
    | (go_at_call 23; refine Calls.mono (text_any data (by omega) _) ?_; rintro e w6 ⟨rfl, hb6⟩; have HK6 := hid (blk_below HK5.out hb6); have HW6 := hid (HW5.out.trans (hb6.mono HW5.out.size)); clear hb6))
  all_goals (go_wp2_with fail)
  all_goals
    refine Calls.mono (frameE (u := B2) (by unfold maxLen; omega) _) ?_
    rintro e w7 ⟨rfl, hb7⟩
    go_wp2_with fail
    go_ret2
    rw [HB2.out]
    exact ⟨rfl, HW6.out.trans (hb7.mono HW6.out.size)⟩
def msWrite (x : Ms) : Bytes × Nat := if mayMs x = true then frameOf x.body else ([], 1)
theorem writeMs_any (x : Ms) (vu vf : Value) (w : World) (D : List Nat) (hu : Cells D w vu x.entries.length (enVals x.entries)) (hf : Cells D w vf x.conf.length (intVals x.conf)) (hul : x.entries.length ≤ 1152921504606846976) (hfl : x.conf.length ≤ 1152921504606846976) (hm : ∀ e ∈ x.entries, e.data.length ≤ maxLen)
    (hd : x.data.length ≤ maxLen) (hfit : x.fit) :
    Calls Try.prog 15 #[.agg (x.cells vu vf)] w fun e w' => e = .returned (.tuple #[.string (str (msWrite x).1), .int .i64 ((msWrite x).2 : Nat)]) ∧ Below w.heap.size w w' := by
  unfold msWrite
  cases hy : mayMs x
  · rw [if_neg (by simp)]
    exact writeMs_no x vu vf w D hu hf hul hfl hm hd hy
  · rw [if_pos rfl]
    have hp := mayMs_parts hy
    obtain ⟨kind, src, dest, term, index, logTerm, commit, ok, entries, conf, offset, size, data⟩ := x
    obtain ⟨n0, rfl⟩ := Int.eq_ofNat_of_zero_le (a := kind) (by have := hp.1.1; simp only at this; omega)
    obtain ⟨n1, rfl⟩ := Int.eq_ofNat_of_zero_le (a := src) (by have := hp.2.1.1; simp only at this; omega)
    obtain ⟨n2, rfl⟩ := Int.eq_ofNat_of_zero_le (a := dest) (by have := hp.2.2.1.1; simp only at this; omega)
    obtain ⟨n3, rfl⟩ := Int.eq_ofNat_of_zero_le hp.2.2.2.2.2.2.2.1.1
    obtain ⟨n4, rfl⟩ := Int.eq_ofNat_of_zero_le hp.2.2.2.2.2.2.2.2.1.1
    exact writeMs_at n0 n1 n2 term index logTerm commit n3 n4 ok entries conf data _ (hid rfl) vu vf w D hu hf hy hfit
end Go.Proofs.Ytgkapgfpalbkjaa
