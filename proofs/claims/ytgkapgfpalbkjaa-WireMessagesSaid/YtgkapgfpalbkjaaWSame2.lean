/-
  The walks of SameRequest and SameMessage at two that are alike.
-/
import Derived.Test.YtgkapgfpalbkjaaWSame
import Derived.Test.YtgkapgfpalbkjaaWList
namespace Go.Proofs.Ytgkapgfpalbkjaa
open Go.RowKit
set_option linter.unusedVariables false
set_option linter.unusedSimpArgs false
set_option maxRecDepth 100000 in
set_option maxHeartbeats 4000000 in
theorem sameRq_eq (x : Rq) (v1 v2 v3 v4 : Value) (w : World) (D1 D2 D3 D4 : List Nat) (h1 : Cells D1 w v1 x.uids.length (rgVals x.uids)) (h2 : Cells D2 w v2 x.flags.length (strVals x.flags)) (h3 : Cells D3 w v3 x.uids.length (rgVals x.uids)) (h4 : Cells D4 w v4 x.flags.length (strVals x.flags))
    (hn1 : x.uids.length ≤ 1152921504606846976) (hn2 : x.flags.length ≤ 1152921504606846976) :
    Calls Try.prog 14 #[.agg (x.cells v1 v2), .agg (x.cells v3 v4)] w fun e w' => e = .returned (.bool true) ∧ Below w.heap.size w w' := by
  obtain ⟨a1, c1, rfl⟩ := h1.form
  obtain ⟨d1, e1, rfl⟩ := h2.form
  obtain ⟨a2, c2, rfl⟩ := h3.form
  obtain ⟨d2, e2, rfl⟩ := h4.form
  have hk := blk_alloc (heap_alloc_new w (.cells #[.int .i64 x.op, .int .u64 x.session, .int .u64 x.number, .int .i64 x.node, .int .u64 x.life, .int .u64 x.tried, .string (str x.box), .string (str x.dest), .int .u64 x.validity, .slice a1 x.uids.length c1, .slice d1 x.flags.length e1, .int .i64 x.how, .bool x.has, .int .u64 x.since, .string (str x.hash), .int .u64 x.size, .int .u64 x.sweeps] 26)) (.cells #[.int .i64 x.op, .int .u64 x.session, .int .u64 x.number, .int .i64 x.node, .int .u64 x.life, .int .u64 x.tried, .string (str x.box), .string (str x.dest), .int .u64 x.validity, .slice a2 x.uids.length c2, .slice d2 x.flags.length e2, .int .i64 x.how, .bool x.has, .int .u64 x.since, .string (str x.hash), .int .u64 x.size, .int .u64 x.sweeps] 26)
  have hm := heap_alloc_new (w.alloc (.cells #[.int .i64 x.op, .int .u64 x.session, .int .u64 x.number, .int .i64 x.node, .int .u64 x.life, .int .u64 x.tried, .string (str x.box), .string (str x.dest), .int .u64 x.validity, .slice a1 x.uids.length c1, .slice d1 x.flags.length e1, .int .i64 x.how, .bool x.has, .int .u64 x.since, .string (str x.hash), .int .u64 x.size, .int .u64 x.sweeps] 26)) (.cells #[.int .i64 x.op, .int .u64 x.session, .int .u64 x.number, .int .i64 x.node, .int .u64 x.life, .int .u64 x.tried, .string (str x.box), .string (str x.dest), .int .u64 x.validity, .slice a2 x.uids.length c2, .slice d2 x.flags.length e2, .int .i64 x.how, .bool x.has, .int .u64 x.since, .string (str x.hash), .int .u64 x.size, .int .u64 x.sweeps] 26)
  rw [World.size_alloc] at hm
  have hB : Below w.heap.size w ((w.alloc (.cells #[.int .i64 x.op, .int .u64 x.session, .int .u64 x.number, .int .i64 x.node, .int .u64 x.life, .int .u64 x.tried, .string (str x.box), .string (str x.dest), .int .u64 x.validity, .slice a1 x.uids.length c1, .slice d1 x.flags.length e1, .int .i64 x.how, .bool x.has, .int .u64 x.since, .string (str x.hash), .int .u64 x.size, .int .u64 x.sweeps] 26)).alloc (.cells #[.int .i64 x.op, .int .u64 x.session, .int .u64 x.number, .int .i64 x.node, .int .u64 x.life, .int .u64 x.tried, .string (str x.box), .string (str x.dest), .int .u64 x.validity, .slice a2 x.uids.length c2, .slice d2 x.flags.length e2, .int .i64 x.how, .bool x.has, .int .u64 x.since, .string (str x.hash), .int .u64 x.size, .int .u64 x.sweeps] 26)) := ((Below.refl _ _).alloc (Nat.le_refl _) _).alloc (by simp) _
  have HB := hid hB
  have H1 := hid (h1.kept (fun j hj _ => hB.block j hj))
  have H2 := hid (h2.kept (fun j hj _ => hB.block j hj))
  have H3 := hid (h3.kept (fun j hj _ => hB.block j hj))
  have H4 := hid (h4.kept (fun j hj _ => hB.block j hj))
  clear h1 h2 h3 h4 hB
  unfold Rq.cells
  go_enter Try.func14, Try.ntmps14
  go_wp2_with fail
  generalize (w.alloc (.cells #[.int .i64 x.op, .int .u64 x.session, .int .u64 x.number, .int .i64 x.node, .int .u64 x.life, .int .u64 x.tried, .string (str x.box), .string (str x.dest), .int .u64 x.validity, .slice a1 x.uids.length c1, .slice d1 x.flags.length e1, .int .i64 x.how, .bool x.has, .int .u64 x.since, .string (str x.hash), .int .u64 x.size, .int .u64 x.sweeps] 26)).alloc (.cells #[.int .i64 x.op, .int .u64 x.session, .int .u64 x.number, .int .i64 x.node, .int .u64 x.life, .int .u64 x.tried, .string (str x.box), .string (str x.dest), .int .u64 x.validity, .slice a2 x.uids.length c2, .slice d2 x.flags.length e2, .int .i64 x.how, .bool x.has, .int .u64 x.since, .string (str x.hash), .int .u64 x.size, .int .u64 x.sweeps] 26) = W at *
  generalize w.heap.size + 1 = m at hm ⊢
  generalize hke : w.heap.size = k at hk ⊢
  clear hke
  have HK := hid hk
  have HM := hid hm
  clear hk hm
  refine Calls.mono (sameRanges_any x.uids x.uids _ _ W D1 D3 H1.out H3.out hn1 hn1) ?_
  rintro e W1 ⟨⟨b, rfl, hb⟩, hb1⟩
  obtain rfl : b = true := hb.2 rfl
  have HB1 := hid (HB.out.trans (hb1.mono HB.out.size))
  have HK1 := hid (blk_below HK.out hb1)
  have HM1 := hid (blk_below HM.out hb1)
  have H2' := hid (H2.out.below hb1)
  have H4' := hid (H4.out.below hb1)
  clear hb hb1
  have p10 : W1.cell? ⟨k, 10, none⟩ = some (.slice d1 x.flags.length e1) := cell_in HK1.out 10 _ rfl
  have p11 : W1.cell? ⟨k, 11, none⟩ = some (.int .i64 x.how) := cell_in HK1.out 11 _ rfl
  have p12 : W1.cell? ⟨k, 12, none⟩ = some (.bool x.has) := cell_in HK1.out 12 _ rfl
  have p13 : W1.cell? ⟨k, 13, none⟩ = some (.int .u64 x.since) := cell_in HK1.out 13 _ rfl
  have p14 : W1.cell? ⟨k, 14, none⟩ = some (.string (str x.hash)) := cell_in HK1.out 14 _ rfl
  have p15 : W1.cell? ⟨k, 15, none⟩ = some (.int .u64 x.size) := cell_in HK1.out 15 _ rfl
  have p16 : W1.cell? ⟨k, 16, none⟩ = some (.int .u64 x.sweeps) := cell_in HK1.out 16 _ rfl
  have q10 : W1.cell? ⟨m, 10, none⟩ = some (.slice d2 x.flags.length e2) := cell_in HM1.out 10 _ rfl
  have q11 : W1.cell? ⟨m, 11, none⟩ = some (.int .i64 x.how) := cell_in HM1.out 11 _ rfl
  have q12 : W1.cell? ⟨m, 12, none⟩ = some (.bool x.has) := cell_in HM1.out 12 _ rfl
  have q13 : W1.cell? ⟨m, 13, none⟩ = some (.int .u64 x.since) := cell_in HM1.out 13 _ rfl
  have q14 : W1.cell? ⟨m, 14, none⟩ = some (.string (str x.hash)) := cell_in HM1.out 14 _ rfl
  have q15 : W1.cell? ⟨m, 15, none⟩ = some (.int .u64 x.size) := cell_in HM1.out 15 _ rfl
  have q16 : W1.cell? ⟨m, 16, none⟩ = some (.int .u64 x.sweeps) := cell_in HM1.out 16 _ rfl
  go_wp2_with fail
  refine Calls.mono (sameFlags_any x.flags x.flags _ _ W1 D2 D4 H2'.out H4'.out hn2 hn2) ?_
  rintro e W2 ⟨⟨b, rfl, hb⟩, hb2⟩
  obtain rfl : b = true := hb.2 rfl
  have HB2 := hid (HB1.out.trans (hb2.mono HB1.out.size))
  have HK2 := hid (blk_below HK1.out hb2)
  have HM2 := hid (blk_below HM1.out hb2)
  clear hb hb2
  have r11 : W2.cell? ⟨k, 11, none⟩ = some (.int .i64 x.how) := cell_in HK2.out 11 _ rfl
  have r12 : W2.cell? ⟨k, 12, none⟩ = some (.bool x.has) := cell_in HK2.out 12 _ rfl
  have r13 : W2.cell? ⟨k, 13, none⟩ = some (.int .u64 x.since) := cell_in HK2.out 13 _ rfl
  have r14 : W2.cell? ⟨k, 14, none⟩ = some (.string (str x.hash)) := cell_in HK2.out 14 _ rfl
  have r15 : W2.cell? ⟨k, 15, none⟩ = some (.int .u64 x.size) := cell_in HK2.out 15 _ rfl
  have r16 : W2.cell? ⟨k, 16, none⟩ = some (.int .u64 x.sweeps) := cell_in HK2.out 16 _ rfl
  have s11 : W2.cell? ⟨m, 11, none⟩ = some (.int .i64 x.how) := cell_in HM2.out 11 _ rfl
  have s12 : W2.cell? ⟨m, 12, none⟩ = some (.bool x.has) := cell_in HM2.out 12 _ rfl
  have s13 : W2.cell? ⟨m, 13, none⟩ = some (.int .u64 x.since) := cell_in HM2.out 13 _ rfl
  have s14 : W2.cell? ⟨m, 14, none⟩ = some (.string (str x.hash)) := cell_in HM2.out 14 _ rfl
  have s15 : W2.cell? ⟨m, 15, none⟩ = some (.int .u64 x.size) := cell_in HM2.out 15 _ rfl
  have s16 : W2.cell? ⟨m, 16, none⟩ = some (.int .u64 x.sweeps) := cell_in HM2.out 16 _ rfl
  go_wp2_with fail
  go_ret
  exact ⟨rfl, HB2.out⟩
set_option maxRecDepth 100000 in
set_option maxHeartbeats 4000000 in
theorem sameMs_eq (x : Ms) (v1 v2 v3 v4 : Value) (w : World) (D1 D2 D3 D4 : List Nat) (h1 : Cells D1 w v1 x.entries.length (enVals x.entries)) (h2 : Cells D2 w v2 x.conf.length (intVals x.conf)) (h3 : Cells D3 w v3 x.entries.length (enVals x.entries)) (h4 : Cells D4 w v4 x.conf.length (intVals x.conf))
    (hn1 : x.entries.length ≤ 1152921504606846976) (hn2 : x.conf.length ≤ 1152921504606846976) :
    Calls Try.prog 19 #[.agg (x.cells v1 v2), .agg (x.cells v3 v4)] w fun e w' => e = .returned (.bool true) ∧ Below w.heap.size w w' := by
  obtain ⟨a1, c1, rfl⟩ := h1.form
  obtain ⟨d1, e1, rfl⟩ := h2.form
  obtain ⟨a2, c2, rfl⟩ := h3.form
  obtain ⟨d2, e2, rfl⟩ := h4.form
  have hk := blk_alloc (heap_alloc_new w (.cells #[.int .i64 x.kind, .int .i64 x.src, .int .i64 x.dest, .int .u64 x.term, .int .u64 x.index, .int .u64 x.logTerm, .int .u64 x.commit, .bool x.ok, .slice a1 x.entries.length c1, .slice d1 x.conf.length e1, .int .i64 x.offset, .int .i64 x.size, .string (str x.data)] 32)) (.cells #[.int .i64 x.kind, .int .i64 x.src, .int .i64 x.dest, .int .u64 x.term, .int .u64 x.index, .int .u64 x.logTerm, .int .u64 x.commit, .bool x.ok, .slice a2 x.entries.length c2, .slice d2 x.conf.length e2, .int .i64 x.offset, .int .i64 x.size, .string (str x.data)] 32)
  have hm := heap_alloc_new (w.alloc (.cells #[.int .i64 x.kind, .int .i64 x.src, .int .i64 x.dest, .int .u64 x.term, .int .u64 x.index, .int .u64 x.logTerm, .int .u64 x.commit, .bool x.ok, .slice a1 x.entries.length c1, .slice d1 x.conf.length e1, .int .i64 x.offset, .int .i64 x.size, .string (str x.data)] 32)) (.cells #[.int .i64 x.kind, .int .i64 x.src, .int .i64 x.dest, .int .u64 x.term, .int .u64 x.index, .int .u64 x.logTerm, .int .u64 x.commit, .bool x.ok, .slice a2 x.entries.length c2, .slice d2 x.conf.length e2, .int .i64 x.offset, .int .i64 x.size, .string (str x.data)] 32)
  rw [World.size_alloc] at hm
  have hB : Below w.heap.size w ((w.alloc (.cells #[.int .i64 x.kind, .int .i64 x.src, .int .i64 x.dest, .int .u64 x.term, .int .u64 x.index, .int .u64 x.logTerm, .int .u64 x.commit, .bool x.ok, .slice a1 x.entries.length c1, .slice d1 x.conf.length e1, .int .i64 x.offset, .int .i64 x.size, .string (str x.data)] 32)).alloc (.cells #[.int .i64 x.kind, .int .i64 x.src, .int .i64 x.dest, .int .u64 x.term, .int .u64 x.index, .int .u64 x.logTerm, .int .u64 x.commit, .bool x.ok, .slice a2 x.entries.length c2, .slice d2 x.conf.length e2, .int .i64 x.offset, .int .i64 x.size, .string (str x.data)] 32)) := ((Below.refl _ _).alloc (Nat.le_refl _) _).alloc (by simp) _
  have HB := hid hB
  have H1 := hid (h1.kept (fun j hj _ => hB.block j hj))
  have H2 := hid (h2.kept (fun j hj _ => hB.block j hj))
  have H3 := hid (h3.kept (fun j hj _ => hB.block j hj))
  have H4 := hid (h4.kept (fun j hj _ => hB.block j hj))
  clear h1 h2 h3 h4 hB
  unfold Ms.cells
  go_enter Try.func19, Try.ntmps19
  go_wp2_with fail
  generalize (w.alloc (.cells #[.int .i64 x.kind, .int .i64 x.src, .int .i64 x.dest, .int .u64 x.term, .int .u64 x.index, .int .u64 x.logTerm, .int .u64 x.commit, .bool x.ok, .slice a1 x.entries.length c1, .slice d1 x.conf.length e1, .int .i64 x.offset, .int .i64 x.size, .string (str x.data)] 32)).alloc (.cells #[.int .i64 x.kind, .int .i64 x.src, .int .i64 x.dest, .int .u64 x.term, .int .u64 x.index, .int .u64 x.logTerm, .int .u64 x.commit, .bool x.ok, .slice a2 x.entries.length c2, .slice d2 x.conf.length e2, .int .i64 x.offset, .int .i64 x.size, .string (str x.data)] 32) = W at *
  generalize w.heap.size + 1 = m at hm ⊢
  generalize hke : w.heap.size = k at hk ⊢
  clear hke
  have HK := hid hk
  have HM := hid hm
  clear hk hm
  refine Calls.mono (sameEntries_any x.entries x.entries _ _ W D1 D3 H1.out H3.out hn1 hn1) ?_
  rintro e W1 ⟨⟨b, rfl, hb⟩, hb1⟩
  obtain rfl : b = true := hb.2 rfl
  have HB1 := hid (HB.out.trans (hb1.mono HB.out.size))
  have HK1 := hid (blk_below HK.out hb1)
  have HM1 := hid (blk_below HM.out hb1)
  have H2' := hid (H2.out.below hb1)
  have H4' := hid (H4.out.below hb1)
  clear hb hb1
  have p9 : W1.cell? ⟨k, 9, none⟩ = some (.slice d1 x.conf.length e1) := cell_in HK1.out 9 _ rfl
  have p10 : W1.cell? ⟨k, 10, none⟩ = some (.int .i64 x.offset) := cell_in HK1.out 10 _ rfl
  have p11 : W1.cell? ⟨k, 11, none⟩ = some (.int .i64 x.size) := cell_in HK1.out 11 _ rfl
  have p12 : W1.cell? ⟨k, 12, none⟩ = some (.string (str x.data)) := cell_in HK1.out 12 _ rfl
  have q9 : W1.cell? ⟨m, 9, none⟩ = some (.slice d2 x.conf.length e2) := cell_in HM1.out 9 _ rfl
  have q10 : W1.cell? ⟨m, 10, none⟩ = some (.int .i64 x.offset) := cell_in HM1.out 10 _ rfl
  have q11 : W1.cell? ⟨m, 11, none⟩ = some (.int .i64 x.size) := cell_in HM1.out 11 _ rfl
  have q12 : W1.cell? ⟨m, 12, none⟩ = some (.string (str x.data)) := cell_in HM1.out 12 _ rfl
  go_wp2_with fail
  refine Calls.mono (sameConfs_any x.conf x.conf _ _ W1 D2 D4 H2'.out H4'.out hn2 hn2) ?_
  rintro e W2 ⟨⟨b, rfl, hb⟩, hb2⟩
  obtain rfl : b = true := hb.2 rfl
  have HB2 := hid (HB1.out.trans (hb2.mono HB1.out.size))
  have HK2 := hid (blk_below HK1.out hb2)
  have HM2 := hid (blk_below HM1.out hb2)
  clear hb hb2
  have r10 : W2.cell? ⟨k, 10, none⟩ = some (.int .i64 x.offset) := cell_in HK2.out 10 _ rfl
  have r11 : W2.cell? ⟨k, 11, none⟩ = some (.int .i64 x.size) := cell_in HK2.out 11 _ rfl
  have r12 : W2.cell? ⟨k, 12, none⟩ = some (.string (str x.data)) := cell_in HK2.out 12 _ rfl
  have s10 : W2.cell? ⟨m, 10, none⟩ = some (.int .i64 x.offset) := cell_in HM2.out 10 _ rfl
  have s11 : W2.cell? ⟨m, 11, none⟩ = some (.int .i64 x.size) := cell_in HM2.out 11 _ rfl
  have s12 : W2.cell? ⟨m, 12, none⟩ = some (.string (str x.data)) := cell_in HM2.out 12 _ rfl
  go_wp2_with fail
  go_ret
  exact ⟨rfl, HB2.out⟩
end Go.Proofs.Ytgkapgfpalbkjaa
