/-
  The walk of WireBack.
-/
import Derived.Test.YtgkapgfpalbkjaaWireOneW
import Derived.Test.YtgkapgfpalbkjaaWLight
import Derived.Test.YtgkapgfpalbkjaaWOpen
namespace Go.Proofs.Ytgkapgfpalbkjaa
open Go.RowKit
set_option linter.unusedVariables false
set_option linter.unusedSimpArgs false
theorem numF_le : ∀ (f k n : Nat), n < 128 ^ k → 0 < k → (numF f n).length ≤ k
  | 0, k, n, _, _ => Nat.zero_le _
  | f + 1, k, n, h, hk => by
    simp only [numF]
    split
    · simp; omega
    · rename_i hn
      obtain ⟨j, rfl⟩ : ∃ j, k = j + 1 := ⟨k - 1, by omega⟩
      have e1 : 128 ^ (j + 1) = 128 * 128 ^ j := by rw [Nat.pow_succ, Nat.mul_comm]
      rcases Nat.eq_zero_or_pos j with rfl | hj
      · simp at h; omega
      · have := numF_le f j (n / 128) (by omega) hj
        simp only [List.length_cons]
        omega
theorem num_le (k n : Nat) (h : n < 128 ^ k) (hk : 0 < k) : (num n).length ≤ k := numF_le 10 k n h hk
/-- a request's bytes fit an entry -/
theorem bytes_fit (x : Rq) (hm : mayRq x = true) : x.bytes.length ≤ 2048 := by
  have hp := mayRq_parts hm
  obtain ⟨⟨_, p1⟩, ⟨_, p2⟩, p3, p4, p5, p6, p7, p8, ⟨_, p9⟩, p10⟩ := hp
  have l1 := flat_len [x.op.toNat, x.session, x.number, x.node.toNat, x.life, x.tried]
  have l2 := flat_len [x.how.toNat, bitN x.has, x.since]
  have l3 := flat_len [x.size, x.sweeps]
  have l4 := text_len x.box
  have l5 := text_len x.dest
  have l6 := text_len x.hash
  have l7 := num_len x.validity
  have l8 := num_len x.uids.length
  have l9 := num_len x.flags.length
  have e5 : (128 : Nat) ^ 5 = 34359738368 := by decide
  have l10 := flat_le rgBytes 10 x.uids (fun r hr => by
    have := p6 r hr
    have := num_le 5 r.1 (by omega) (by omega)
    have := num_le 5 r.2 (by omega) (by omega)
    unfold rgBytes; rw [List.length_append]; omega)
  have l11 := flat_le text 33 x.flags (fun f hf => by
    have := p8 f hf
    have := num_le 1 f.length (by omega) (by omega)
    unfold text; rw [List.length_append]; omega)
  unfold Rq.bytes listB
  simp only [List.length_append]
  simp only [List.length_cons, List.length_nil] at l1 l2 l3
  omega
set_option maxRecDepth 100000 in
set_option maxHeartbeats 8000000 in
theorem wireBack_at (x : Rq) (m : Ms) (vu vf ve vc : Value) (w : World) (hu : Cells [] w vu x.uids.length (rgVals x.uids)) (hf : Cells [] w vf x.flags.length (strVals x.flags)) (he : Cells [] w ve m.entries.length (enVals m.entries)) (hc : Cells [] w vc m.conf.length (intVals m.conf)) (hf2 : ∀ f ∈ x.flags, f.length ≤ maxLen) (he2 : ∀ e ∈ m.entries, e.data.length ≤ maxLen) (hb : x.box.length ≤ maxLen) (hd : x.dest.length ≤ maxLen) (hh : x.hash.length ≤ maxLen) (hdd : m.data.length ≤ maxLen) (hxf : x.fit) (hmf : m.fit) :
    Calls Try.prog 5 #[.agg (x.cells vu vf), .agg (m.cells ve vc)] w fun e w' => e = .returned (.bool true) ∧ Below w.heap.size w w' := by
  obtain ⟨au, cu, rfl⟩ := hu.form
  obtain ⟨af, cf, rfl⟩ := hf.form
  obtain ⟨ae, ce, rfl⟩ := he.form
  obtain ⟨ac, cc, rfl⟩ := hc.form
  have hk := blk_alloc (heap_alloc_new w (.cells #[.int .i64 x.op, .int .u64 x.session, .int .u64 x.number, .int .i64 x.node, .int .u64 x.life, .int .u64 x.tried, .string (str x.box), .string (str x.dest), .int .u64 x.validity, .slice au x.uids.length cu, .slice af x.flags.length cf, .int .i64 x.how, .bool x.has, .int .u64 x.since, .string (str x.hash), .int .u64 x.size, .int .u64 x.sweeps] 26)) (.cells #[.int .i64 m.kind, .int .i64 m.src, .int .i64 m.dest, .int .u64 m.term, .int .u64 m.index, .int .u64 m.logTerm, .int .u64 m.commit, .bool m.ok, .slice ae m.entries.length ce, .slice ac m.conf.length cc, .int .i64 m.offset, .int .i64 m.size, .string (str m.data)] 32)
  have hm := heap_alloc_new (w.alloc (.cells #[.int .i64 x.op, .int .u64 x.session, .int .u64 x.number, .int .i64 x.node, .int .u64 x.life, .int .u64 x.tried, .string (str x.box), .string (str x.dest), .int .u64 x.validity, .slice au x.uids.length cu, .slice af x.flags.length cf, .int .i64 x.how, .bool x.has, .int .u64 x.since, .string (str x.hash), .int .u64 x.size, .int .u64 x.sweeps] 26)) (.cells #[.int .i64 m.kind, .int .i64 m.src, .int .i64 m.dest, .int .u64 m.term, .int .u64 m.index, .int .u64 m.logTerm, .int .u64 m.commit, .bool m.ok, .slice ae m.entries.length ce, .slice ac m.conf.length cc, .int .i64 m.offset, .int .i64 m.size, .string (str m.data)] 32)
  rw [World.size_alloc] at hm
  have hB : Below w.heap.size w ((w.alloc (.cells #[.int .i64 x.op, .int .u64 x.session, .int .u64 x.number, .int .i64 x.node, .int .u64 x.life, .int .u64 x.tried, .string (str x.box), .string (str x.dest), .int .u64 x.validity, .slice au x.uids.length cu, .slice af x.flags.length cf, .int .i64 x.how, .bool x.has, .int .u64 x.since, .string (str x.hash), .int .u64 x.size, .int .u64 x.sweeps] 26)).alloc (.cells #[.int .i64 m.kind, .int .i64 m.src, .int .i64 m.dest, .int .u64 m.term, .int .u64 m.index, .int .u64 m.logTerm, .int .u64 m.commit, .bool m.ok, .slice ae m.entries.length ce, .slice ac m.conf.length cc, .int .i64 m.offset, .int .i64 m.size, .string (str m.data)] 32)) := ((Below.refl _ _).alloc (Nat.le_refl _) _).alloc (by simp) _
  have HB := hid hB
  have HU := hid (hu.kept (fun j hj _ => hB.block j hj))
  have HF := hid (hf.kept (fun j hj _ => hB.block j hj))
  have HE := hid (he.kept (fun j hj _ => hB.block j hj))
  have HC := hid (hc.kept (fun j hj _ => hB.block j hj))
  have LI := hid (fun (W : World) hu hf he hc => light_any x m (.slice au x.uids.length cu) (.slice af x.flags.length cf) (.slice ae m.entries.length ce) (.slice ac m.conf.length cc) W [] [] [] [] hu hf he hc hf2 he2 hb hd hh hdd)
  have HXL := hid (show (∀ f ∈ x.flags, f.length ≤ maxLen) ∧ x.box.length ≤ maxLen ∧ x.dest.length ≤ maxLen ∧ x.hash.length ≤ maxLen from ⟨hf2, hb, hd, hh⟩)
  have HML := hid (show (∀ e ∈ m.entries, e.data.length ≤ maxLen) ∧ m.data.length ≤ maxLen from ⟨he2, hdd⟩)
  have HXF := hid hxf
  have HMF := hid hmf
  clear hu hf he hc hB hf2 he2 hb hd hh hdd hxf hmf
  unfold Rq.cells Ms.cells
  go_enter Try.func5, Try.ntmps5
  go_wp2_with fail
  generalize (w.alloc (.cells #[.int .i64 x.op, .int .u64 x.session, .int .u64 x.number, .int .i64 x.node, .int .u64 x.life, .int .u64 x.tried, .string (str x.box), .string (str x.dest), .int .u64 x.validity, .slice au x.uids.length cu, .slice af x.flags.length cf, .int .i64 x.how, .bool x.has, .int .u64 x.since, .string (str x.hash), .int .u64 x.size, .int .u64 x.sweeps] 26)).alloc (.cells #[.int .i64 m.kind, .int .i64 m.src, .int .i64 m.dest, .int .u64 m.term, .int .u64 m.index, .int .u64 m.logTerm, .int .u64 m.commit, .bool m.ok, .slice ae m.entries.length ce, .slice ac m.conf.length cc, .int .i64 m.offset, .int .i64 m.size, .string (str m.data)] 32) = W0 at *
  generalize w.heap.size + 1 = g at hm ⊢
  generalize hke : w.heap.size = k at hk ⊢
  clear hke
  refine Calls.mono (alive_any _) ?_
  rintro e w1 ⟨rfl, hb1⟩
  have HK1 := hid (blk_below hk hb1)
  have HG1 := hid (blk_below hm hb1)
  have HU1 := hid (HU.out.below hb1)
  have HF1 := hid (HF.out.below hb1)
  have HE1 := hid (HE.out.below hb1)
  have HC1 := hid (HC.out.below hb1)
  have HB1 := hid (HB.out.trans (hb1.mono HB.out.size))
  clear hk hm HU HF HE HC HB hb1
  have p0 : w1.cell? ⟨k, 0, none⟩ = some (.int .i64 x.op) := cell_in HK1.out 0 _ rfl
  have p1 : w1.cell? ⟨k, 1, none⟩ = some (.int .u64 x.session) := cell_in HK1.out 1 _ rfl
  have p2 : w1.cell? ⟨k, 2, none⟩ = some (.int .u64 x.number) := cell_in HK1.out 2 _ rfl
  have p3 : w1.cell? ⟨k, 3, none⟩ = some (.int .i64 x.node) := cell_in HK1.out 3 _ rfl
  have p4 : w1.cell? ⟨k, 4, none⟩ = some (.int .u64 x.life) := cell_in HK1.out 4 _ rfl
  have p5 : w1.cell? ⟨k, 5, none⟩ = some (.int .u64 x.tried) := cell_in HK1.out 5 _ rfl
  have p6 : w1.cell? ⟨k, 6, none⟩ = some (.string (str x.box)) := cell_in HK1.out 6 _ rfl
  have p7 : w1.cell? ⟨k, 7, none⟩ = some (.string (str x.dest)) := cell_in HK1.out 7 _ rfl
  have p8 : w1.cell? ⟨k, 8, none⟩ = some (.int .u64 x.validity) := cell_in HK1.out 8 _ rfl
  have p9 : w1.cell? ⟨k, 9, none⟩ = some (.slice au x.uids.length cu) := cell_in HK1.out 9 _ rfl
  have p10 : w1.cell? ⟨k, 10, none⟩ = some (.slice af x.flags.length cf) := cell_in HK1.out 10 _ rfl
  have p11 : w1.cell? ⟨k, 11, none⟩ = some (.int .i64 x.how) := cell_in HK1.out 11 _ rfl
  have p12 : w1.cell? ⟨k, 12, none⟩ = some (.bool x.has) := cell_in HK1.out 12 _ rfl
  have p13 : w1.cell? ⟨k, 13, none⟩ = some (.int .u64 x.since) := cell_in HK1.out 13 _ rfl
  have p14 : w1.cell? ⟨k, 14, none⟩ = some (.string (str x.hash)) := cell_in HK1.out 14 _ rfl
  have p15 : w1.cell? ⟨k, 15, none⟩ = some (.int .u64 x.size) := cell_in HK1.out 15 _ rfl
  have p16 : w1.cell? ⟨k, 16, none⟩ = some (.int .u64 x.sweeps) := cell_in HK1.out 16 _ rfl
  have q0 : w1.cell? ⟨g, 0, none⟩ = some (.int .i64 m.kind) := cell_in HG1.out 0 _ rfl
  have q1 : w1.cell? ⟨g, 1, none⟩ = some (.int .i64 m.src) := cell_in HG1.out 1 _ rfl
  have q2 : w1.cell? ⟨g, 2, none⟩ = some (.int .i64 m.dest) := cell_in HG1.out 2 _ rfl
  have q3 : w1.cell? ⟨g, 3, none⟩ = some (.int .u64 m.term) := cell_in HG1.out 3 _ rfl
  have q4 : w1.cell? ⟨g, 4, none⟩ = some (.int .u64 m.index) := cell_in HG1.out 4 _ rfl
  have q5 : w1.cell? ⟨g, 5, none⟩ = some (.int .u64 m.logTerm) := cell_in HG1.out 5 _ rfl
  have q6 : w1.cell? ⟨g, 6, none⟩ = some (.int .u64 m.commit) := cell_in HG1.out 6 _ rfl
  have q7 : w1.cell? ⟨g, 7, none⟩ = some (.bool m.ok) := cell_in HG1.out 7 _ rfl
  have q8 : w1.cell? ⟨g, 8, none⟩ = some (.slice ae m.entries.length ce) := cell_in HG1.out 8 _ rfl
  have q9 : w1.cell? ⟨g, 9, none⟩ = some (.slice ac m.conf.length cc) := cell_in HG1.out 9 _ rfl
  have q10 : w1.cell? ⟨g, 10, none⟩ = some (.int .i64 m.offset) := cell_in HG1.out 10 _ rfl
  have q11 : w1.cell? ⟨g, 11, none⟩ = some (.int .i64 m.size) := cell_in HG1.out 11 _ rfl
  have q12 : w1.cell? ⟨g, 12, none⟩ = some (.string (str m.data)) := cell_in HG1.out 12 _ rfl
  go_wp2_with fail
  clear p0 p1 p2 p3 p4 p5 p6 p7 p8 p9 p10 p11 p12 p13 p14 p15 p16 q0 q1 q2 q3 q4 q5 q6 q7 q8 q9 q10 q11 q12
  refine Calls.mono (LI.out _ HU1.out HF1.out HE1.out HC1.out) ?_
  rintro e w2 ⟨b, rfl, hlb, hb2⟩
  have HK2 := hid (blk_below HK1.out hb2)
  have HG2 := hid (blk_below HG1.out hb2)
  have HU2 := hid (HU1.out.below hb2)
  have HF2 := hid (HF1.out.below hb2)
  have HE2 := hid (HE1.out.below hb2)
  have HC2 := hid (HC1.out.below hb2)
  have HB2 := hid (HB1.out.trans (hb2.mono HB1.out.size))
  clear HK1 HG1 HU1 HF1 HE1 HC1 HB1 LI hb2
  cases b
  · clear hlb
    go_wp2_with fail
    refine Calls.mono (alive_any _) ?_
    rintro e w3 ⟨rfl, hb3⟩
    go_wp2_with fail
    go_ret
    exact ⟨rfl, HB2.out.trans (hb3.mono HB2.out.size)⟩
  have HLN := hid (hlb rfl)
  clear hlb
  have HWR := hid (writeRq_any x _ _ w2 [] HU2.out HF2.out (by have := HLN.out; omega) (by have := HLN.out; omega) HXL.out.1 HXL.out.2.1 HXL.out.2.2.1 HXL.out.2.2.2 HXF.out)
  cases hmr : mayRq x
  · as_aux_lemma =>
    have hwr : rqWrite x = ([], 1) := by unfold rqWrite; rw [hmr]; rfl
    rw [hwr] at HWR
    clear hwr hmr
    go_wp2_with (refine wpList_load_row rfl 26 _ rfl k (by rfl) 26 (x.cells (.slice au x.uids.length cu) (.slice af x.flags.length cf)) (0, 0) _ HK2.out Try.underlying26 rfl sizeReq ?_)
    refine Calls.mono HWR.out ?_
    rintro e w6 ⟨rfl, hb6⟩
    have HK6 := hid (blk_below HK2.out hb6)
    have HG6 := hid (blk_below HG2.out hb6)
    have HU6 := hid (HU2.out.below hb6)
    have HF6 := hid (HF2.out.below hb6)
    have HE6 := hid (HE2.out.below hb6)
    have HC6 := hid (HC2.out.below hb6)
    have HB6 := hid (HB2.out.trans (hb6.mono HB2.out.size))
    clear HK2 HG2 HU2 HF2 HE2 HC2 HB2 hb6 HWR
    go_upto_region 8 with fail
    have HWM := hid (writeMs_any m _ _ w6 [] HE6.out HC6.out (by have := HLN.out; omega) (by have := HLN.out; omega) HML.out.1 HML.out.2 HMF.out)
    clear HU6 HF6 HK6
    cases hmm : mayMs m
    · as_aux_lemma =>
      have hwm : msWrite m = ([], 1) := by unfold msWrite; rw [hmm]; rfl
      rw [hwm] at HWM
      clear hwm
      go_wp2_with (refine wpList_load_row rfl 32 _ rfl g (by rfl) 32 (m.cells (.slice ae m.entries.length ce) (.slice ac m.conf.length cc)) (0, 0) _ HG6.out Try.underlying32 rfl sizeMsg ?_)
      refine Calls.mono HWM.out ?_
      rintro e w7 ⟨rfl, hb7⟩
      have hemp2 : (str []).toList = [] := by rw [ByteArray.toList_eq]; rfl
      have hemp : ((str []).toList.isEmpty) = true := by rw [hemp2]; rfl
      go_wp2_with fail
      go_ret
      exact ⟨rfl, HB6.out.trans (hb7.mono HB6.out.size)⟩
    · as_aux_lemma =>
      have hwm : msWrite m = (frame m.body, 0) := by unfold msWrite; rw [if_pos hmm, frameOf_body _ hmm]
      have hrm : rdMs (frame m.body) = (m, 0) := by
        have := rdMs_back m hmm HMF.out []
        rw [List.append_nil, if_pos rfl] at this
        exact this
      have HRM := hid (fun W => readMs_any (frame m.body) (by rw [frame_length]; have := body_len m hmm; omega) W)
      rw [hwm] at HWM
      rw [hrm] at HRM
      clear hwm hrm hmm
      generalize frame m.body = fb at *
      go_wp2_with (refine wpList_load_row rfl 32 _ rfl g (by rfl) 32 (m.cells (.slice ae m.entries.length ce) (.slice ac m.conf.length cc)) (0, 0) _ HG6.out Try.underlying32 rfl sizeMsg ?_)
      refine Calls.mono HWM.out ?_
      rintro e w7 ⟨rfl, hb7⟩
      have HG7 := hid (blk_below HG6.out hb7)
      have HE7 := hid (HE6.out.below hb7)
      have HC7 := hid (HC6.out.below hb7)
      have HB7 := hid (HB6.out.trans (hb7.mono HB6.out.size))
      clear HG6 HE6 HC6 HB6 hb7 HWM
      go_wp2_with fail
      refine Calls.mono (HRM.out _) ?_
      rintro e w8 ⟨ve2, vc2, rfl, he2, hc2, hb8⟩
      obtain ⟨ae2, ce2, ee2⟩ := he2.form
      obtain ⟨ac2, cc2, ec2⟩ := hc2.form
      subst ee2 ec2
      have hn8 := heap_alloc_new w8 (.cells msgZ 32)
      have hone8 := m.cells_one ae2 ac2 m.entries.length m.conf.length ce2 cc2
      go_upto_region 12 with (refine wpList_store_row rfl 32 _ _ rfl w8.heap.size (m.cells (.slice ae2 m.entries.length ce2) (.slice ac2 m.conf.length cc2)) (by rfl) (by rfl) 32 msgZ hn8 sizeMsg rfl hone8 ?_)
      have hst8 := stored_below w8 (.cells #[.int .i64 0, .int .i64 0, .int .i64 0, .int .u64 0, .int .u64 0, .int .u64 0, .int .u64 0, .bool false, .slice none 0 0, .slice none 0 0, .int .i64 0, .int .i64 0, .string { data := #[] }] 32) (m.cells (.slice ae2 m.entries.length ce2) (.slice ac2 m.conf.length cc2))
      have HN9 := hid (setRow_heap (w8.alloc (.cells #[.int .i64 0, .int .i64 0, .int .i64 0, .int .u64 0, .int .u64 0, .int .u64 0, .int .u64 0, .bool false, .slice none 0 0, .slice none 0 0, .int .i64 0, .int .i64 0, .string { data := #[] }] 32)) w8.heap.size msgZ (m.cells (.slice ae2 m.entries.length ce2) (.slice ac2 m.conf.length cc2)) _ _ hn8)
      have HG9 := hid (blk_below (blk_below HG7.out hb8) hst8)
      have HE9 := hid ((HE7.out.below hb8).below hst8)
      have HC9 := hid ((HC7.out.below hb8).below hst8)
      have HI9 := hid (he2.below hst8)
      have HJ9 := hid (hc2.below hst8)
      have HB8 := hid (HB7.out.trans (hb8.mono HB7.out.size))
      have HB9 := hid (HB8.out.trans (hst8.mono HB8.out.size))
      clear hn8 hone8 hst8 he2 hc2 hb8 HG7 HE7 HC7 HB7 HB8 HRM
      generalize (w8.alloc (.cells #[.int .i64 0, .int .i64 0, .int .i64 0, .int .u64 0, .int .u64 0, .int .u64 0, .int .u64 0, .bool false, .slice none 0 0, .slice none 0 0, .int .i64 0, .int .i64 0, .string { data := #[] }] 32)).setRow w8.heap.size (m.cells (.slice ae2 m.entries.length ce2) (.slice ac2 m.conf.length cc2)) = w9 at *
      generalize w8.heap.size = g8 at *
      have p0 : w9.cell? ⟨g8, 0, none⟩ = some (.int .i64 m.kind) := cell_in HN9.out 0 _ rfl
      have p1 : w9.cell? ⟨g8, 1, none⟩ = some (.int .i64 m.src) := cell_in HN9.out 1 _ rfl
      have p2 : w9.cell? ⟨g8, 2, none⟩ = some (.int .i64 m.dest) := cell_in HN9.out 2 _ rfl
      have p3 : w9.cell? ⟨g8, 3, none⟩ = some (.int .u64 m.term) := cell_in HN9.out 3 _ rfl
      have p4 : w9.cell? ⟨g8, 4, none⟩ = some (.int .u64 m.index) := cell_in HN9.out 4 _ rfl
      have p5 : w9.cell? ⟨g8, 5, none⟩ = some (.int .u64 m.logTerm) := cell_in HN9.out 5 _ rfl
      have p6 : w9.cell? ⟨g8, 6, none⟩ = some (.int .u64 m.commit) := cell_in HN9.out 6 _ rfl
      have p7 : w9.cell? ⟨g8, 7, none⟩ = some (.bool m.ok) := cell_in HN9.out 7 _ rfl
      have p8 : w9.cell? ⟨g8, 8, none⟩ = some (.slice ae2 m.entries.length ce2) := cell_in HN9.out 8 _ rfl
      have p9 : w9.cell? ⟨g8, 9, none⟩ = some (.slice ac2 m.conf.length cc2) := cell_in HN9.out 9 _ rfl
      have p10 : w9.cell? ⟨g8, 10, none⟩ = some (.int .i64 m.offset) := cell_in HN9.out 10 _ rfl
      have p11 : w9.cell? ⟨g8, 11, none⟩ = some (.int .i64 m.size) := cell_in HN9.out 11 _ rfl
      have p12 : w9.cell? ⟨g8, 12, none⟩ = some (.string (str m.data)) := cell_in HN9.out 12 _ rfl
      have q0 : w9.cell? ⟨g, 0, none⟩ = some (.int .i64 m.kind) := cell_in HG9.out 0 _ rfl
      have q1 : w9.cell? ⟨g, 1, none⟩ = some (.int .i64 m.src) := cell_in HG9.out 1 _ rfl
      have q2 : w9.cell? ⟨g, 2, none⟩ = some (.int .i64 m.dest) := cell_in HG9.out 2 _ rfl
      have q3 : w9.cell? ⟨g, 3, none⟩ = some (.int .u64 m.term) := cell_in HG9.out 3 _ rfl
      have q4 : w9.cell? ⟨g, 4, none⟩ = some (.int .u64 m.index) := cell_in HG9.out 4 _ rfl
      have q5 : w9.cell? ⟨g, 5, none⟩ = some (.int .u64 m.logTerm) := cell_in HG9.out 5 _ rfl
      have q6 : w9.cell? ⟨g, 6, none⟩ = some (.int .u64 m.commit) := cell_in HG9.out 6 _ rfl
      have q7 : w9.cell? ⟨g, 7, none⟩ = some (.bool m.ok) := cell_in HG9.out 7 _ rfl
      have q8 : w9.cell? ⟨g, 8, none⟩ = some (.slice ae m.entries.length ce) := cell_in HG9.out 8 _ rfl
      have q9 : w9.cell? ⟨g, 9, none⟩ = some (.slice ac m.conf.length cc) := cell_in HG9.out 9 _ rfl
      have q10 : w9.cell? ⟨g, 10, none⟩ = some (.int .i64 m.offset) := cell_in HG9.out 10 _ rfl
      have q11 : w9.cell? ⟨g, 11, none⟩ = some (.int .i64 m.size) := cell_in HG9.out 11 _ rfl
      have q12 : w9.cell? ⟨g, 12, none⟩ = some (.string (str m.data)) := cell_in HG9.out 12 _ rfl
      go_wp2_with fail
      refine Calls.mono (sameMs_eq m _ _ _ _ w9 [] [] [] [] HI9.out HJ9.out HE9.out HC9.out (by have := HLN.out; omega) (by have := HLN.out; omega)) ?_
      rintro e w10 ⟨rfl, hb10⟩
      clear p0 p1 p2 p3 p4 p5 p6 p7 p8 p9 p10 p11 p12 q0 q1 q2 q3 q4 q5 q6 q7 q8 q9 q10 q11 q12
      go_wp2_with fail
      go_ret
      exact ⟨rfl, HB9.out.trans (hb10.mono HB9.out.size)⟩
  · as_aux_lemma =>
    have hwr : rqWrite x = (x.bytes, 0) := by unfold rqWrite; rw [if_pos hmr]
    have hrr : rdRq x.bytes = (x, 0) := rdRq_back x hmr HXF.out
    have hbf := bytes_fit x hmr
    have HRR := hid (fun W => readRq_any x.bytes (by omega) W)
    rw [hwr] at HWR
    rw [hrr] at HRR
    clear hwr hrr hmr
    generalize x.bytes = xb at *
    have hzb : (str xb).size = xb.length := str_size _
    go_wp2_with (refine wpList_load_row rfl 26 _ rfl k (by rfl) 26 (x.cells (.slice au x.uids.length cu) (.slice af x.flags.length cf)) (0, 0) _ HK2.out Try.underlying26 rfl sizeReq ?_)
    refine Calls.mono HWR.out ?_
    rintro e w3 ⟨rfl, hb3⟩
    have HK3 := hid (blk_below HK2.out hb3)
    have HG3 := hid (blk_below HG2.out hb3)
    have HU3 := hid (HU2.out.below hb3)
    have HF3 := hid (HF2.out.below hb3)
    have HE3 := hid (HE2.out.below hb3)
    have HC3 := hid (HC2.out.below hb3)
    have HB3 := hid (HB2.out.trans (hb3.mono HB2.out.size))
    clear HK2 HG2 HU2 HF2 HE2 HC2 HB2 hb3 HWR
    go_wp2_with fail
    refine Calls.mono (HRR.out _) ?_
    rintro e w4 ⟨vu2, vf2, rfl, hu2, hf2, hb4⟩
    obtain ⟨au2, cu2, eu2⟩ := hu2.form
    obtain ⟨af2, cf2, ef2⟩ := hf2.form
    subst eu2 ef2
    have hn4 := heap_alloc_new w4 (.cells reqZ 26)
    have hone4 := x.cells_one au2 af2 x.uids.length x.flags.length cu2 cf2
    go_upto_region 6 with (refine wpList_store_row rfl 26 _ _ rfl w4.heap.size (x.cells (.slice au2 x.uids.length cu2) (.slice af2 x.flags.length cf2)) (by rfl) (by rfl) 26 reqZ hn4 sizeReq rfl hone4 ?_)
    have hst4 := stored_below w4 (.cells #[.int .i64 0, .int .u64 0, .int .u64 0, .int .i64 0, .int .u64 0, .int .u64 0, .string { data := #[] }, .string { data := #[] }, .int .u64 0, .slice none 0 0, .slice none 0 0, .int .i64 0, .bool false, .int .u64 0, .string { data := #[] }, .int .u64 0, .int .u64 0] 26) (x.cells (.slice au2 x.uids.length cu2) (.slice af2 x.flags.length cf2))
    have HN5 := hid (setRow_heap (w4.alloc (.cells #[.int .i64 0, .int .u64 0, .int .u64 0, .int .i64 0, .int .u64 0, .int .u64 0, .string { data := #[] }, .string { data := #[] }, .int .u64 0, .slice none 0 0, .slice none 0 0, .int .i64 0, .bool false, .int .u64 0, .string { data := #[] }, .int .u64 0, .int .u64 0] 26)) w4.heap.size reqZ (x.cells (.slice au2 x.uids.length cu2) (.slice af2 x.flags.length cf2)) _ _ hn4)
    have HK5 := hid (blk_below (blk_below HK3.out hb4) hst4)
    have HG5 := hid (blk_below (blk_below HG3.out hb4) hst4)
    have HU5 := hid ((HU3.out.below hb4).below hst4)
    have HF5 := hid ((HF3.out.below hb4).below hst4)
    have HE5 := hid ((HE3.out.below hb4).below hst4)
    have HC5 := hid ((HC3.out.below hb4).below hst4)
    have HI5 := hid (hu2.below hst4)
    have HJ5 := hid (hf2.below hst4)
    have HB4 := hid (HB3.out.trans (hb4.mono HB3.out.size))
    have HB5 := hid (HB4.out.trans (hst4.mono HB4.out.size))
    clear hn4 hone4 hst4 hu2 hf2 hb4 HK3 HG3 HU3 HF3 HE3 HC3 HB3 HB4 HRR
    generalize (w4.alloc (.cells #[.int .i64 0, .int .u64 0, .int .u64 0, .int .i64 0, .int .u64 0, .int .u64 0, .string { data := #[] }, .string { data := #[] }, .int .u64 0, .slice none 0 0, .slice none 0 0, .int .i64 0, .bool false, .int .u64 0, .string { data := #[] }, .int .u64 0, .int .u64 0] 26)).setRow w4.heap.size (x.cells (.slice au2 x.uids.length cu2) (.slice af2 x.flags.length cf2)) = w5 at *
    generalize w4.heap.size = g4 at *
    have p0 : w5.cell? ⟨g4, 0, none⟩ = some (.int .i64 x.op) := cell_in HN5.out 0 _ rfl
    have p1 : w5.cell? ⟨g4, 1, none⟩ = some (.int .u64 x.session) := cell_in HN5.out 1 _ rfl
    have p2 : w5.cell? ⟨g4, 2, none⟩ = some (.int .u64 x.number) := cell_in HN5.out 2 _ rfl
    have p3 : w5.cell? ⟨g4, 3, none⟩ = some (.int .i64 x.node) := cell_in HN5.out 3 _ rfl
    have p4 : w5.cell? ⟨g4, 4, none⟩ = some (.int .u64 x.life) := cell_in HN5.out 4 _ rfl
    have p5 : w5.cell? ⟨g4, 5, none⟩ = some (.int .u64 x.tried) := cell_in HN5.out 5 _ rfl
    have p6 : w5.cell? ⟨g4, 6, none⟩ = some (.string (str x.box)) := cell_in HN5.out 6 _ rfl
    have p7 : w5.cell? ⟨g4, 7, none⟩ = some (.string (str x.dest)) := cell_in HN5.out 7 _ rfl
    have p8 : w5.cell? ⟨g4, 8, none⟩ = some (.int .u64 x.validity) := cell_in HN5.out 8 _ rfl
    have p9 : w5.cell? ⟨g4, 9, none⟩ = some (.slice au2 x.uids.length cu2) := cell_in HN5.out 9 _ rfl
    have p10 : w5.cell? ⟨g4, 10, none⟩ = some (.slice af2 x.flags.length cf2) := cell_in HN5.out 10 _ rfl
    have p11 : w5.cell? ⟨g4, 11, none⟩ = some (.int .i64 x.how) := cell_in HN5.out 11 _ rfl
    have p12 : w5.cell? ⟨g4, 12, none⟩ = some (.bool x.has) := cell_in HN5.out 12 _ rfl
    have p13 : w5.cell? ⟨g4, 13, none⟩ = some (.int .u64 x.since) := cell_in HN5.out 13 _ rfl
    have p14 : w5.cell? ⟨g4, 14, none⟩ = some (.string (str x.hash)) := cell_in HN5.out 14 _ rfl
    have p15 : w5.cell? ⟨g4, 15, none⟩ = some (.int .u64 x.size) := cell_in HN5.out 15 _ rfl
    have p16 : w5.cell? ⟨g4, 16, none⟩ = some (.int .u64 x.sweeps) := cell_in HN5.out 16 _ rfl
    have q0 : w5.cell? ⟨k, 0, none⟩ = some (.int .i64 x.op) := cell_in HK5.out 0 _ rfl
    have q1 : w5.cell? ⟨k, 1, none⟩ = some (.int .u64 x.session) := cell_in HK5.out 1 _ rfl
    have q2 : w5.cell? ⟨k, 2, none⟩ = some (.int .u64 x.number) := cell_in HK5.out 2 _ rfl
    have q3 : w5.cell? ⟨k, 3, none⟩ = some (.int .i64 x.node) := cell_in HK5.out 3 _ rfl
    have q4 : w5.cell? ⟨k, 4, none⟩ = some (.int .u64 x.life) := cell_in HK5.out 4 _ rfl
    have q5 : w5.cell? ⟨k, 5, none⟩ = some (.int .u64 x.tried) := cell_in HK5.out 5 _ rfl
    have q6 : w5.cell? ⟨k, 6, none⟩ = some (.string (str x.box)) := cell_in HK5.out 6 _ rfl
    have q7 : w5.cell? ⟨k, 7, none⟩ = some (.string (str x.dest)) := cell_in HK5.out 7 _ rfl
    have q8 : w5.cell? ⟨k, 8, none⟩ = some (.int .u64 x.validity) := cell_in HK5.out 8 _ rfl
    have q9 : w5.cell? ⟨k, 9, none⟩ = some (.slice au x.uids.length cu) := cell_in HK5.out 9 _ rfl
    have q10 : w5.cell? ⟨k, 10, none⟩ = some (.slice af x.flags.length cf) := cell_in HK5.out 10 _ rfl
    have q11 : w5.cell? ⟨k, 11, none⟩ = some (.int .i64 x.how) := cell_in HK5.out 11 _ rfl
    have q12 : w5.cell? ⟨k, 12, none⟩ = some (.bool x.has) := cell_in HK5.out 12 _ rfl
    have q13 : w5.cell? ⟨k, 13, none⟩ = some (.int .u64 x.since) := cell_in HK5.out 13 _ rfl
    have q14 : w5.cell? ⟨k, 14, none⟩ = some (.string (str x.hash)) := cell_in HK5.out 14 _ rfl
    have q15 : w5.cell? ⟨k, 15, none⟩ = some (.int .u64 x.size) := cell_in HK5.out 15 _ rfl
    have q16 : w5.cell? ⟨k, 16, none⟩ = some (.int .u64 x.sweeps) := cell_in HK5.out 16 _ rfl
    go_wp2_with fail
    refine Calls.mono (sameRq_eq x _ _ _ _ w5 [] [] [] [] HI5.out HJ5.out HU5.out HF5.out (by have := HLN.out; omega) (by have := HLN.out; omega)) ?_
    rintro e w6 ⟨rfl, hb6⟩
    clear p0 p1 p2 p3 p4 p5 p6 p7 p8 p9 p10 p11 p12 p13 p14 p15 p16 q0 q1 q2 q3 q4 q5 q6 q7 q8 q9 q10 q11 q12 q13 q14 q15 q16
    have HK6 := hid (blk_below HK5.out hb6)
    have HG6 := hid (blk_below HG5.out hb6)
    have HU6 := hid (HU5.out.below hb6)
    have HF6 := hid (HF5.out.below hb6)
    have HE6 := hid (HE5.out.below hb6)
    have HC6 := hid (HC5.out.below hb6)
    have HB6 := hid (HB5.out.trans (hb6.mono HB5.out.size))
    clear HK5 HG5 HU5 HF5 HE5 HC5 HB5 hb6 HI5 HJ5 HN5
    go_upto_region 8 with fail
    have HWM := hid (writeMs_any m _ _ w6 [] HE6.out HC6.out (by have := HLN.out; omega) (by have := HLN.out; omega) HML.out.1 HML.out.2 HMF.out)
    clear HU6 HF6 HK6
    cases hmm : mayMs m
    · as_aux_lemma =>
      have hwm : msWrite m = ([], 1) := by unfold msWrite; rw [hmm]; rfl
      rw [hwm] at HWM
      clear hwm
      go_wp2_with (refine wpList_load_row rfl 32 _ rfl g (by rfl) 32 (m.cells (.slice ae m.entries.length ce) (.slice ac m.conf.length cc)) (0, 0) _ HG6.out Try.underlying32 rfl sizeMsg ?_)
      refine Calls.mono HWM.out ?_
      rintro e w7 ⟨rfl, hb7⟩
      have hemp2 : (str []).toList = [] := by rw [ByteArray.toList_eq]; rfl
      have hemp : ((str []).toList.isEmpty) = true := by rw [hemp2]; rfl
      go_wp2_with fail
      go_ret
      exact ⟨rfl, HB6.out.trans (hb7.mono HB6.out.size)⟩
    · as_aux_lemma =>
      have hwm : msWrite m = (frame m.body, 0) := by unfold msWrite; rw [if_pos hmm, frameOf_body _ hmm]
      have hrm : rdMs (frame m.body) = (m, 0) := by
        have := rdMs_back m hmm HMF.out []
        rw [List.append_nil, if_pos rfl] at this
        exact this
      have HRM := hid (fun W => readMs_any (frame m.body) (by rw [frame_length]; have := body_len m hmm; omega) W)
      rw [hwm] at HWM
      rw [hrm] at HRM
      clear hwm hrm hmm
      generalize frame m.body = fb at *
      go_wp2_with (refine wpList_load_row rfl 32 _ rfl g (by rfl) 32 (m.cells (.slice ae m.entries.length ce) (.slice ac m.conf.length cc)) (0, 0) _ HG6.out Try.underlying32 rfl sizeMsg ?_)
      refine Calls.mono HWM.out ?_
      rintro e w7 ⟨rfl, hb7⟩
      have HG7 := hid (blk_below HG6.out hb7)
      have HE7 := hid (HE6.out.below hb7)
      have HC7 := hid (HC6.out.below hb7)
      have HB7 := hid (HB6.out.trans (hb7.mono HB6.out.size))
      clear HG6 HE6 HC6 HB6 hb7 HWM
      go_wp2_with fail
      refine Calls.mono (HRM.out _) ?_
      rintro e w8 ⟨ve2, vc2, rfl, he2, hc2, hb8⟩
      obtain ⟨ae2, ce2, ee2⟩ := he2.form
      obtain ⟨ac2, cc2, ec2⟩ := hc2.form
      subst ee2 ec2
      have hn8 := heap_alloc_new w8 (.cells msgZ 32)
      have hone8 := m.cells_one ae2 ac2 m.entries.length m.conf.length ce2 cc2
      go_upto_region 12 with (refine wpList_store_row rfl 32 _ _ rfl w8.heap.size (m.cells (.slice ae2 m.entries.length ce2) (.slice ac2 m.conf.length cc2)) (by rfl) (by rfl) 32 msgZ hn8 sizeMsg rfl hone8 ?_)
      have hst8 := stored_below w8 (.cells #[.int .i64 0, .int .i64 0, .int .i64 0, .int .u64 0, .int .u64 0, .int .u64 0, .int .u64 0, .bool false, .slice none 0 0, .slice none 0 0, .int .i64 0, .int .i64 0, .string { data := #[] }] 32) (m.cells (.slice ae2 m.entries.length ce2) (.slice ac2 m.conf.length cc2))
      have HN9 := hid (setRow_heap (w8.alloc (.cells #[.int .i64 0, .int .i64 0, .int .i64 0, .int .u64 0, .int .u64 0, .int .u64 0, .int .u64 0, .bool false, .slice none 0 0, .slice none 0 0, .int .i64 0, .int .i64 0, .string { data := #[] }] 32)) w8.heap.size msgZ (m.cells (.slice ae2 m.entries.length ce2) (.slice ac2 m.conf.length cc2)) _ _ hn8)
      have HG9 := hid (blk_below (blk_below HG7.out hb8) hst8)
      have HE9 := hid ((HE7.out.below hb8).below hst8)
      have HC9 := hid ((HC7.out.below hb8).below hst8)
      have HI9 := hid (he2.below hst8)
      have HJ9 := hid (hc2.below hst8)
      have HB8 := hid (HB7.out.trans (hb8.mono HB7.out.size))
      have HB9 := hid (HB8.out.trans (hst8.mono HB8.out.size))
      clear hn8 hone8 hst8 he2 hc2 hb8 HG7 HE7 HC7 HB7 HB8 HRM
      generalize (w8.alloc (.cells #[.int .i64 0, .int .i64 0, .int .i64 0, .int .u64 0, .int .u64 0, .int .u64 0, .int .u64 0, .bool false, .slice none 0 0, .slice none 0 0, .int .i64 0, .int .i64 0, .string { data := #[] }] 32)).setRow w8.heap.size (m.cells (.slice ae2 m.entries.length ce2) (.slice ac2 m.conf.length cc2)) = w9 at *
      generalize w8.heap.size = g8 at *
      have p0 : w9.cell? ⟨g8, 0, none⟩ = some (.int .i64 m.kind) := cell_in HN9.out 0 _ rfl
      have p1 : w9.cell? ⟨g8, 1, none⟩ = some (.int .i64 m.src) := cell_in HN9.out 1 _ rfl
      have p2 : w9.cell? ⟨g8, 2, none⟩ = some (.int .i64 m.dest) := cell_in HN9.out 2 _ rfl
      have p3 : w9.cell? ⟨g8, 3, none⟩ = some (.int .u64 m.term) := cell_in HN9.out 3 _ rfl
      have p4 : w9.cell? ⟨g8, 4, none⟩ = some (.int .u64 m.index) := cell_in HN9.out 4 _ rfl
      have p5 : w9.cell? ⟨g8, 5, none⟩ = some (.int .u64 m.logTerm) := cell_in HN9.out 5 _ rfl
      have p6 : w9.cell? ⟨g8, 6, none⟩ = some (.int .u64 m.commit) := cell_in HN9.out 6 _ rfl
      have p7 : w9.cell? ⟨g8, 7, none⟩ = some (.bool m.ok) := cell_in HN9.out 7 _ rfl
      have p8 : w9.cell? ⟨g8, 8, none⟩ = some (.slice ae2 m.entries.length ce2) := cell_in HN9.out 8 _ rfl
      have p9 : w9.cell? ⟨g8, 9, none⟩ = some (.slice ac2 m.conf.length cc2) := cell_in HN9.out 9 _ rfl
      have p10 : w9.cell? ⟨g8, 10, none⟩ = some (.int .i64 m.offset) := cell_in HN9.out 10 _ rfl
      have p11 : w9.cell? ⟨g8, 11, none⟩ = some (.int .i64 m.size) := cell_in HN9.out 11 _ rfl
      have p12 : w9.cell? ⟨g8, 12, none⟩ = some (.string (str m.data)) := cell_in HN9.out 12 _ rfl
      have q0 : w9.cell? ⟨g, 0, none⟩ = some (.int .i64 m.kind) := cell_in HG9.out 0 _ rfl
      have q1 : w9.cell? ⟨g, 1, none⟩ = some (.int .i64 m.src) := cell_in HG9.out 1 _ rfl
      have q2 : w9.cell? ⟨g, 2, none⟩ = some (.int .i64 m.dest) := cell_in HG9.out 2 _ rfl
      have q3 : w9.cell? ⟨g, 3, none⟩ = some (.int .u64 m.term) := cell_in HG9.out 3 _ rfl
      have q4 : w9.cell? ⟨g, 4, none⟩ = some (.int .u64 m.index) := cell_in HG9.out 4 _ rfl
      have q5 : w9.cell? ⟨g, 5, none⟩ = some (.int .u64 m.logTerm) := cell_in HG9.out 5 _ rfl
      have q6 : w9.cell? ⟨g, 6, none⟩ = some (.int .u64 m.commit) := cell_in HG9.out 6 _ rfl
      have q7 : w9.cell? ⟨g, 7, none⟩ = some (.bool m.ok) := cell_in HG9.out 7 _ rfl
      have q8 : w9.cell? ⟨g, 8, none⟩ = some (.slice ae m.entries.length ce) := cell_in HG9.out 8 _ rfl
      have q9 : w9.cell? ⟨g, 9, none⟩ = some (.slice ac m.conf.length cc) := cell_in HG9.out 9 _ rfl
      have q10 : w9.cell? ⟨g, 10, none⟩ = some (.int .i64 m.offset) := cell_in HG9.out 10 _ rfl
      have q11 : w9.cell? ⟨g, 11, none⟩ = some (.int .i64 m.size) := cell_in HG9.out 11 _ rfl
      have q12 : w9.cell? ⟨g, 12, none⟩ = some (.string (str m.data)) := cell_in HG9.out 12 _ rfl
      go_wp2_with fail
      refine Calls.mono (sameMs_eq m _ _ _ _ w9 [] [] [] [] HI9.out HJ9.out HE9.out HC9.out (by have := HLN.out; omega) (by have := HLN.out; omega)) ?_
      rintro e w10 ⟨rfl, hb10⟩
      clear p0 p1 p2 p3 p4 p5 p6 p7 p8 p9 p10 p11 p12 q0 q1 q2 q3 q4 q5 q6 q7 q8 q9 q10 q11 q12
      go_wp2_with fail
      go_ret
      exact ⟨rfl, HB9.out.trans (hb10.mono HB9.out.size)⟩
theorem wireBack_walk (x : Rq) (vu vf : Value) (m : Ms) (ve vc : Value) (w : World) (hx : RqArg x vu vf w) (hm : MsArg m ve vc w) :
    Calls Try.prog 5 #[.agg (x.cells vu vf), .agg (m.cells ve vc)] w fun e w' => e = .returned (.bool true) ∧ Below w.heap.size w w' := by
  obtain ⟨h1, h2, h3, _, _, h6, h7, h8, h9⟩ := hx
  obtain ⟨g1, g2, g3, _, _, g6, g7⟩ := hm
  exact wireBack_at x m vu vf ve vc w h1 h2 g1 g2 h6 g6 h7 h8 h9 g7 h3 g3
end Go.Proofs.Ytgkapgfpalbkjaa
