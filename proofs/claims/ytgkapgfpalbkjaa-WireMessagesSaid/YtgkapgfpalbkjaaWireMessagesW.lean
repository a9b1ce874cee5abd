/-
  The walk of WireMessages.
-/
import Derived.Test.YtgkapgfpalbkjaaRefLawM
import Derived.Test.YtgkapgfpalbkjaaWLight
import Derived.Test.YtgkapgfpalbkjaaWOpen
namespace Go.Proofs.Ytgkapgfpalbkjaa
open Go.RowKit
set_option linter.unusedVariables false
set_option linter.unusedSimpArgs false
theorem rdMs_small (s : Bytes) : (rdMs s).1.entries.length ≤ 1152921504606846976 ∧ (rdMs s).1.conf.length ≤ 1152921504606846976 := by
  by_cases h : (rdMs s).2 = 0
  · have := mayMs_lens (rdMs_one s h).1
    exact ⟨this.1, this.2.1⟩
  · rw [rdMs_zero s h]
    decide
theorem msWrite_code (x : Ms) : (msWrite x).2 = 0 ∧ mayMs x = true ∨ (msWrite x).2 = 1 ∧ mayMs x = false := by
  unfold msWrite
  cases h : mayMs x
  · exact .inr ⟨rfl, rfl⟩
  · rw [if_pos rfl, frameOf_body x h]
    exact .inl ⟨rfl, rfl⟩
set_option maxRecDepth 100000 in
set_option maxHeartbeats 8000000 in
theorem wireMessages_at (x : Ms) (t : Bytes) (vu vf : Value) (w : World) (hu : Cells [] w vu x.entries.length (enVals x.entries)) (hf : Cells [] w vf x.conf.length (intVals x.conf)) (he2 : ∀ e ∈ x.entries, e.data.length ≤ maxLen) (hdd : x.data.length ≤ maxLen) (hxf : x.fit) (htl : t.length ≤ maxLen) :
    Calls Try.prog 4 #[.agg (x.cells vu vf), .string (str t)] w fun e w' => e = .returned (.bool true) ∧ Below w.heap.size w w' := by
  obtain ⟨au, cu, rfl⟩ := hu.form
  obtain ⟨af, cf, rfl⟩ := hf.form
  have hk := heap_alloc_new w (.cells #[.int .i64 x.kind, .int .i64 x.src, .int .i64 x.dest, .int .u64 x.term, .int .u64 x.index, .int .u64 x.logTerm, .int .u64 x.commit, .bool x.ok, .slice au x.entries.length cu, .slice af x.conf.length cf, .int .i64 x.offset, .int .i64 x.size, .string (str x.data)] 32)
  have hB : Below w.heap.size w (w.alloc (.cells #[.int .i64 x.kind, .int .i64 x.src, .int .i64 x.dest, .int .u64 x.term, .int .u64 x.index, .int .u64 x.logTerm, .int .u64 x.commit, .bool x.ok, .slice au x.entries.length cu, .slice af x.conf.length cf, .int .i64 x.offset, .int .i64 x.size, .string (str x.data)] 32)) := (Below.refl _ _).alloc (Nat.le_refl _) _
  have HB := hid hB
  have HU := hid (hu.kept (fun j hj _ => hB.block j hj))
  have HF := hid (hf.kept (fun j hj _ => hB.block j hj))
  have LI := hid (fun (W : World) hu hf => light_any Rq.zero x (.slice none 0 0) (.slice none 0 0) (.slice au x.entries.length cu) (.slice af x.conf.length cf) W [] [] [] [] (Cells.nil _ _) (Cells.nil _ _) hu hf (by intro f hf; simp [Rq.zero] at hf) he2 (by decide) (by decide) (by decide) hdd)
  have HXL := hid (show (∀ e ∈ x.entries, e.data.length ≤ maxLen) ∧ x.data.length ≤ maxLen from ⟨he2, hdd⟩)
  have HXF := hid hxf
  have hzt : (str t).size = t.length := str_size _
  unfold maxLen at htl
  clear hu hf hB he2 hdd hxf
  unfold Ms.cells
  go_enter Try.func4, Try.ntmps4
  go_wp2_with fail
  generalize w.alloc (.cells #[.int .i64 x.kind, .int .i64 x.src, .int .i64 x.dest, .int .u64 x.term, .int .u64 x.index, .int .u64 x.logTerm, .int .u64 x.commit, .bool x.ok, .slice au x.entries.length cu, .slice af x.conf.length cf, .int .i64 x.offset, .int .i64 x.size, .string (str x.data)] 32) = W0 at *
  generalize hke : w.heap.size = k at hk ⊢
  clear hke
  refine Calls.mono (alive_any _) ?_
  rintro e w1 ⟨rfl, hb1⟩
  have HK1 := hid (blk_below hk hb1)
  have HU1 := hid (HU.out.below hb1)
  have HF1 := hid (HF.out.below hb1)
  have HB1 := hid (HB.out.trans (hb1.mono HB.out.size))
  clear hk HU HF HB hb1
  go_wp2_with (refine load_row_behind rfl 32 _ rfl k (by rfl) 32 (x.cells (.slice au x.entries.length cu) (.slice af x.conf.length cf)) (0, 0) _ HK1.out Try.underlying32 rfl sizeMsg ?_)
  refine Calls.mono (LI.out _ HU1.out HF1.out) ?_
  rintro e w2 ⟨b, rfl, hlb, hb2⟩
  have HK2 := hid (blk_below HK1.out hb2)
  have HU2 := hid (HU1.out.below hb2)
  have HF2 := hid (HF1.out.below hb2)
  have HB2 := hid (HB1.out.trans (hb2.mono HB1.out.size))
  clear HK1 HU1 HF1 HB1 LI hb2
  cases b
  · as_aux_lemma =>
    clear hlb
    go_wp2_with fail
    refine Calls.mono (alive_any _) ?_
    rintro e w3 ⟨rfl, hb3⟩
    go_wp2_with fail
    go_ret
    exact ⟨rfl, HB2.out.trans (hb3.mono HB2.out.size)⟩
  have HLN := hid (hlb rfl)
  clear hlb
  by_cases hbig : 131072 < t.length
  · as_aux_lemma =>
    go_wp2_with fail
    refine Calls.mono (alive_any _) ?_
    rintro e w3 ⟨rfl, hb3⟩
    go_wp2_with fail
    go_ret
    exact ⟨rfl, HB2.out.trans (hb3.mono HB2.out.size)⟩
  have HWR := hid (fun W hu hf => writeMs_any x (.slice au x.entries.length cu) (.slice af x.conf.length cf) W [] hu hf (by have := HLN.out; omega) (by have := HLN.out; omega) HXL.out.1 HXL.out.2 HXF.out)
  have HWF := hid (fun W hu hf => refWriteMs_any x (.slice au x.entries.length cu) (.slice af x.conf.length cf) W [] hu hf (by have := HLN.out; omega) (by have := HLN.out; omega) HXL.out.1 HXL.out.2 HXF.out)
  have HWC := hid (msWrite_code x)
  have HRR := hid (fun W => readMs_any t (by omega) W)
  have HRF := hid (fun W => refMs_any t (by omega) W)
  have HRS := hid (rdMs_small t)
  as_aux_lemma =>
    generalize msWrite x = wx at *
    generalize mayMs x = mx at *
    generalize rdMs t = q at *
    obtain ⟨xb, er⟩ := wx
    obtain ⟨y, ey⟩ := q
    simp only at HWR HWF HWC HRR HRF HRS
    go_wp2_with (refine wpList_load_row rfl 32 _ rfl k (by rfl) 32 (x.cells (.slice au x.entries.length cu) (.slice af x.conf.length cf)) (0, 0) _ HK2.out Try.underlying32 rfl sizeMsg ?_)
    refine Calls.mono (HWR.out _ HU2.out HF2.out) ?_
    rintro e w3 ⟨rfl, hb3⟩
    have HK3 := hid (blk_below HK2.out hb3)
    have HU3 := hid (HU2.out.below hb3)
    have HF3 := hid (HF2.out.below hb3)
    have HB3 := hid (HB2.out.trans (hb3.mono HB2.out.size))
    clear HK2 HU2 HF2 HB2 hb3 HWR
    go_wp2_with (refine wpList_load_row rfl 32 _ rfl k (by rfl) 32 (x.cells (.slice au x.entries.length cu) (.slice af x.conf.length cf)) (0, 0) _ HK3.out Try.underlying32 rfl sizeMsg ?_)
    refine Calls.mono (HWF.out _ HU3.out HF3.out) ?_
    rintro e w4 ⟨rfl, hb4⟩
    have HB4 := hid (HB3.out.trans (hb4.mono HB3.out.size))
    clear HK3 HU3 HF3 HB3 hb4 HWF
    go_wp2_with fail
    as_aux_lemma =>
      refine Calls.mono (HRR.out _) ?_
      rintro e w5 ⟨vu5, vf5, rfl, hu5, hf5, hb5⟩
      have HB5 := hid (HB4.out.trans (hb5.mono HB4.out.size))
      clear hb5 HB4
      obtain ⟨au5, cu5, eu5⟩ := hu5.form
      obtain ⟨af5, cf5, ef5⟩ := hf5.form
      subst eu5 ef5
      have hn5 := heap_alloc_new w5 (.cells msgZ 32)
      have hone5 := y.cells_one au5 af5 y.entries.length y.conf.length cu5 cf5
      go_upto_region 6 with (refine wpList_store_row rfl 32 _ _ rfl w5.heap.size (y.cells (.slice au5 y.entries.length cu5) (.slice af5 y.conf.length cf5)) (by rfl) (by rfl) 32 msgZ hn5 sizeMsg rfl hone5 ?_)
      have hst5 := stored_below w5 (.cells #[.int .i64 0, .int .i64 0, .int .i64 0, .int .u64 0, .int .u64 0, .int .u64 0, .int .u64 0, .bool false, .slice none 0 0, .slice none 0 0, .int .i64 0, .int .i64 0, .string { data := #[] }] 32) (y.cells (.slice au5 y.entries.length cu5) (.slice af5 y.conf.length cf5))
      have HN5 := hid (setRow_heap (w5.alloc (.cells #[.int .i64 0, .int .i64 0, .int .i64 0, .int .u64 0, .int .u64 0, .int .u64 0, .int .u64 0, .bool false, .slice none 0 0, .slice none 0 0, .int .i64 0, .int .i64 0, .string { data := #[] }] 32)) w5.heap.size msgZ (y.cells (.slice au5 y.entries.length cu5) (.slice af5 y.conf.length cf5)) _ _ hn5)
      have HI5 := hid (hu5.below hst5)
      have HJ5 := hid (hf5.below hst5)
      have HS5 := hid (HB5.out.trans (hst5.mono HB5.out.size))
      clear hn5 hone5 hst5 HB5 hu5 hf5
      generalize (w5.alloc (.cells #[.int .i64 0, .int .i64 0, .int .i64 0, .int .u64 0, .int .u64 0, .int .u64 0, .int .u64 0, .bool false, .slice none 0 0, .slice none 0 0, .int .i64 0, .int .i64 0, .string { data := #[] }] 32)).setRow w5.heap.size (y.cells (.slice au5 y.entries.length cu5) (.slice af5 y.conf.length cf5)) = v5 at *
      generalize w5.heap.size = g5 at *
      go_wp2_with fail
      as_aux_lemma =>
        refine Calls.mono (HRF.out _) ?_
        rintro e w6 ⟨vu6, vf6, rfl, hu6, hf6, hb6⟩
        have HB6 := hid (HS5.out.trans (hb6.mono HS5.out.size))
        have HN5b := hid (blk_below HN5.out hb6)
        have HI5b := hid (HI5.out.below hb6)
        have HJ5b := hid (HJ5.out.below hb6)
        clear hb6 HS5 HN5 HI5 HJ5
        obtain ⟨au6, cu6, eu6⟩ := hu6.form
        obtain ⟨af6, cf6, ef6⟩ := hf6.form
        subst eu6 ef6
        have hn6 := heap_alloc_new w6 (.cells msgZ 32)
        have hone6 := y.cells_one au6 af6 y.entries.length y.conf.length cu6 cf6
        go_upto_region 7 with (refine wpList_store_row rfl 32 _ _ rfl w6.heap.size (y.cells (.slice au6 y.entries.length cu6) (.slice af6 y.conf.length cf6)) (by rfl) (by rfl) 32 msgZ hn6 sizeMsg rfl hone6 ?_)
        have hst6 := stored_below w6 (.cells #[.int .i64 0, .int .i64 0, .int .i64 0, .int .u64 0, .int .u64 0, .int .u64 0, .int .u64 0, .bool false, .slice none 0 0, .slice none 0 0, .int .i64 0, .int .i64 0, .string { data := #[] }] 32) (y.cells (.slice au6 y.entries.length cu6) (.slice af6 y.conf.length cf6))
        have HN6 := hid (setRow_heap (w6.alloc (.cells #[.int .i64 0, .int .i64 0, .int .i64 0, .int .u64 0, .int .u64 0, .int .u64 0, .int .u64 0, .bool false, .slice none 0 0, .slice none 0 0, .int .i64 0, .int .i64 0, .string { data := #[] }] 32)) w6.heap.size msgZ (y.cells (.slice au6 y.entries.length cu6) (.slice af6 y.conf.length cf6)) _ _ hn6)
        have HI6 := hid (hu6.below hst6)
        have HJ6 := hid (hf6.below hst6)
        have HS6 := hid (HB6.out.trans (hst6.mono HB6.out.size))
        have HN5c := hid (blk_below HN5b.out hst6)
        have HI5c := hid (HI5b.out.below hst6)
        have HJ5c := hid (HJ5b.out.below hst6)
        clear hn6 hone6 hst6 HB6 hu6 hf6
        generalize (w6.alloc (.cells #[.int .i64 0, .int .i64 0, .int .i64 0, .int .u64 0, .int .u64 0, .int .u64 0, .int .u64 0, .bool false, .slice none 0 0, .slice none 0 0, .int .i64 0, .int .i64 0, .string { data := #[] }] 32)).setRow w6.heap.size (y.cells (.slice au6 y.entries.length cu6) (.slice af6 y.conf.length cf6)) = v6 at *
        generalize w6.heap.size = g6 at *
        have HSM := hid (fun W a b c d => sameMs_eq y (.slice au5 y.entries.length cu5) (.slice af5 y.conf.length cf5) (.slice au6 y.entries.length cu6) (.slice af6 y.conf.length cf6) W [] [] [] [] a b c d HRS.out.1 HRS.out.2)
        rcases HWC.out with ⟨rfl, rfl⟩ | ⟨rfl, rfl⟩
        · as_aux_lemma =>
          clear HWC
          go_wp2_with (first | (refine load_row_behind rfl 32 _ rfl g5 (by rfl) 32 (y.cells (.slice au5 y.entries.length cu5) (.slice af5 y.conf.length cf5)) (0, 0) _ HN5c.out Try.underlying32 rfl sizeMsg ?_) | (refine load_row_behind rfl 32 _ rfl g6 (by rfl) 32 (y.cells (.slice au6 y.entries.length cu6) (.slice af6 y.conf.length cf6)) (0, 0) _ HN6.out Try.underlying32 rfl sizeMsg ?_))
          refine Calls.mono (HSM.out _ HI5c.out HJ5c.out HI6.out HJ6.out) ?_
          rintro e w7 ⟨rfl, hb7⟩
          go_wp2_with fail
          go_ret
          exact ⟨rfl, HS6.out.trans (hb7.mono HS6.out.size)⟩
        · as_aux_lemma =>
          clear HWC
          go_wp2_with (first | (refine load_row_behind rfl 32 _ rfl g5 (by rfl) 32 (y.cells (.slice au5 y.entries.length cu5) (.slice af5 y.conf.length cf5)) (0, 0) _ HN5c.out Try.underlying32 rfl sizeMsg ?_) | (refine load_row_behind rfl 32 _ rfl g6 (by rfl) 32 (y.cells (.slice au6 y.entries.length cu6) (.slice af6 y.conf.length cf6)) (0, 0) _ HN6.out Try.underlying32 rfl sizeMsg ?_))
          refine Calls.mono (HSM.out _ HI5c.out HJ5c.out HI6.out HJ6.out) ?_
          rintro e w7 ⟨rfl, hb7⟩
          go_wp2_with fail
          go_ret
          exact ⟨rfl, HS6.out.trans (hb7.mono HS6.out.size)⟩
theorem wireMessages_walk (x : Ms) (vu vf : Value) (t : ByteArray) (ht : t.size ≤ maxLen) (w : World) (hx : MsArg x vu vf w) :
    Calls Try.prog 4 #[.agg (x.cells vu vf), .string t] w fun e w' => e = .returned (.bool true) ∧ Below w.heap.size w w' := by
  obtain ⟨h1, h2, h3, _, _, h6, h7⟩ := hx
  rw [← str_of t]
  exact wireMessages_at x t.data.toList vu vf w h1 h2 h6 h7 h3 (by rw [len_of]; exact ht)
end Go.Proofs.Ytgkapgfpalbkjaa
