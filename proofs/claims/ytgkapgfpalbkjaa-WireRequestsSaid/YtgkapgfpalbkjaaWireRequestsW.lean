/-
  The walk of WireRequests.
-/
import Derived.Test.YtgkapgfpalbkjaaRefLaw
import Derived.Test.YtgkapgfpalbkjaaWLight
import Derived.Test.YtgkapgfpalbkjaaWOpen
namespace Go.Proofs.Ytgkapgfpalbkjaa
open Go.RowKit
set_option linter.unusedVariables false
set_option linter.unusedSimpArgs false
/-- the load of a whole row, behind a guard that holds -/
theorem load_row_guarded {P : Program} {ops : Array Oper} {rest : List Oper} {o : Oper} {a : Act} {w : World} {Q : Exit → Act → World → Prop} (hw : Region.wanted o (yielded ops a.tmps) = true) (ty : TypeId) (x : Operand) (ho : o.op = .load ty x)
    (g : Nat) (hx : a.eval x = .pointer (some ⟨g, 0, none⟩)) (t : TypeId) (cs : Array Value) (fr : Nat × Nat) (d : TypeDesc) (hg : w.heap[g]? = some (.cells cs t fr))
    (hu : P.underlying ty = some d) (hd : (match d with | .struct _ | .array _ _ => true | _ => false) = true) (hi : (P.info? ty).map (·.size) = some cs.size)
    (h : wpList P ops Q rest (a.put o.dst (.agg cs)) w) : wpList P ops Q (o :: rest) a w :=
  wpList_step fun K hK => by
    rw [if_pos hw]
    exact wp_load_row ty x ho g hx t cs fr d hg hu hd hi (hK _ _ h)
theorem rdRq_small (s : Bytes) : (rdRq s).1.uids.length ≤ 1152921504606846976 ∧ (rdRq s).1.flags.length ≤ 1152921504606846976 := by
  by_cases h : (rdRq s).2 = 0
  · have := mayRq_lens (rdRq_one s h).1
    exact ⟨this.1, this.2.1⟩
  · rw [rqOut_zero s h]
    decide
theorem rdRq_code (s : Bytes) : (rdRq s).2 = 0 ∨ (rdRq s).2 = 4 := by
  unfold rdRq rqOut
  split
  · exact .inl rfl
  · exact .inr rfl
theorem rqWrite_code (x : Rq) : (rqWrite x).2 = 0 ∧ mayRq x = true ∨ (rqWrite x).2 = 1 ∧ mayRq x = false := by
  unfold rqWrite
  cases h : mayRq x
  · exact .inr ⟨rfl, rfl⟩
  · exact .inl ⟨rfl, rfl⟩
set_option maxRecDepth 100000 in
set_option maxHeartbeats 8000000 in
theorem wireRequests_at (x : Rq) (t : Bytes) (vu vf : Value) (w : World) (hu : Cells [] w vu x.uids.length (rgVals x.uids)) (hf : Cells [] w vf x.flags.length (strVals x.flags)) (hf2 : ∀ f ∈ x.flags, f.length ≤ maxLen) (hb : x.box.length ≤ maxLen) (hd : x.dest.length ≤ maxLen) (hh : x.hash.length ≤ maxLen) (hxf : x.fit) (htl : t.length ≤ maxLen) :
    Calls Try.prog 3 #[.agg (x.cells vu vf), .string (str t)] w fun e w' => e = .returned (.bool true) ∧ Below w.heap.size w w' := by
  obtain ⟨au, cu, rfl⟩ := hu.form
  obtain ⟨af, cf, rfl⟩ := hf.form
  have hk := heap_alloc_new w (.cells #[.int .i64 x.op, .int .u64 x.session, .int .u64 x.number, .int .i64 x.node, .int .u64 x.life, .int .u64 x.tried, .string (str x.box), .string (str x.dest), .int .u64 x.validity, .slice au x.uids.length cu, .slice af x.flags.length cf, .int .i64 x.how, .bool x.has, .int .u64 x.since, .string (str x.hash), .int .u64 x.size, .int .u64 x.sweeps] 26)
  have hB : Below w.heap.size w (w.alloc (.cells #[.int .i64 x.op, .int .u64 x.session, .int .u64 x.number, .int .i64 x.node, .int .u64 x.life, .int .u64 x.tried, .string (str x.box), .string (str x.dest), .int .u64 x.validity, .slice au x.uids.length cu, .slice af x.flags.length cf, .int .i64 x.how, .bool x.has, .int .u64 x.since, .string (str x.hash), .int .u64 x.size, .int .u64 x.sweeps] 26)) := (Below.refl _ _).alloc (Nat.le_refl _) _
  have HB := hid hB
  have HU := hid (hu.kept (fun j hj _ => hB.block j hj))
  have HF := hid (hf.kept (fun j hj _ => hB.block j hj))
  have LI := hid (fun (W : World) hu hf => light_any x Ms.zero (.slice au x.uids.length cu) (.slice af x.flags.length cf) (.slice none 0 0) (.slice none 0 0) W [] [] [] [] hu hf (Cells.nil _ _) (Cells.nil _ _) hf2 (by intro f hf; simp [Ms.zero] at hf) hb hd hh (by decide))
  have HXL := hid (show (∀ f ∈ x.flags, f.length ≤ maxLen) ∧ x.box.length ≤ maxLen ∧ x.dest.length ≤ maxLen ∧ x.hash.length ≤ maxLen from ⟨hf2, hb, hd, hh⟩)
  have HXF := hid hxf
  have hzt : (str t).size = t.length := str_size _
  unfold maxLen at htl
  clear hu hf hB hf2 hb hd hh hxf
  unfold Rq.cells
  go_enter Try.func3, Try.ntmps3
  go_wp2_with fail
  generalize w.alloc (.cells #[.int .i64 x.op, .int .u64 x.session, .int .u64 x.number, .int .i64 x.node, .int .u64 x.life, .int .u64 x.tried, .string (str x.box), .string (str x.dest), .int .u64 x.validity, .slice au x.uids.length cu, .slice af x.flags.length cf, .int .i64 x.how, .bool x.has, .int .u64 x.since, .string (str x.hash), .int .u64 x.size, .int .u64 x.sweeps] 26) = W0 at *
  generalize hke : w.heap.size = k at hk ⊢
  clear hke
  refine Calls.mono (alive_any _) ?_
  rintro e w1 ⟨rfl, hb1⟩
  have HK1 := hid (blk_below hk hb1)
  have HU1 := hid (HU.out.below hb1)
  have HF1 := hid (HF.out.below hb1)
  have HB1 := hid (HB.out.trans (hb1.mono HB.out.size))
  clear hk HU HF HB hb1
  go_wp2_with (refine load_row_guarded rfl 26 _ rfl k (by rfl) 26 (x.cells (.slice au x.uids.length cu) (.slice af x.flags.length cf)) (0, 0) _ HK1.out Try.underlying26 rfl sizeReq ?_)
  refine Calls.mono (LI.out _ HU1.out HF1.out) ?_
  rintro e w2 ⟨b, rfl, hlb, hb2⟩
  have HK2 := hid (blk_below HK1.out hb2)
  have HU2 := hid (HU1.out.below hb2)
  have HF2 := hid (HF1.out.below hb2)
  have HB2 := hid (HB1.out.trans (hb2.mono HB1.out.size))
  clear HK1 HU1 HF1 HB1 LI hb2
  cases b
  · as_aux_lemma =>
    clear hlb
    go_wp2_with fail
    refine Calls.mono (alive_any _) ?_
    rintro e w3 ⟨rfl, hb3⟩
    go_wp2_with fail
    go_ret
    exact ⟨rfl, HB2.out.trans (hb3.mono HB2.out.size)⟩
  have HLN := hid (hlb rfl)
  clear hlb
  by_cases hbig : 65536 < t.length
  · as_aux_lemma =>
    go_wp2_with fail
    refine Calls.mono (alive_any _) ?_
    rintro e w3 ⟨rfl, hb3⟩
    go_wp2_with fail
    go_ret
    exact ⟨rfl, HB2.out.trans (hb3.mono HB2.out.size)⟩
  have HWR := hid (fun W hu hf => writeRq_any x (.slice au x.uids.length cu) (.slice af x.flags.length cf) W [] hu hf (by have := HLN.out; omega) (by have := HLN.out; omega) HXL.out.1 HXL.out.2.1 HXL.out.2.2.1 HXL.out.2.2.2 HXF.out)
  have HWF := hid (fun W hu hf => refWriteRq_any x (.slice au x.uids.length cu) (.slice af x.flags.length cf) W [] hu hf (by have := HLN.out; omega) (by have := HLN.out; omega) HXL.out.1 HXL.out.2.1 HXL.out.2.2.1 HXL.out.2.2.2 HXF.out)
  have HWC := hid (rqWrite_code x)
  have HRR := hid (fun W => readRq_any t (by omega) W)
  have HRF := hid (fun W => refRq_any t (by omega) W)
  have HRC := hid (rdRq_code t)
  have HRS := hid (rdRq_small t)
  as_aux_lemma =>
    generalize rqWrite x = wx at *
    generalize mayRq x = mx at *
    generalize rdRq t = q at *
    obtain ⟨xb, er⟩ := wx
    obtain ⟨y, ey⟩ := q
    simp only at HWR HWF HWC HRR HRF HRC HRS
    go_wp2_with (refine wpList_load_row rfl 26 _ rfl k (by rfl) 26 (x.cells (.slice au x.uids.length cu) (.slice af x.flags.length cf)) (0, 0) _ HK2.out Try.underlying26 rfl sizeReq ?_)
    refine Calls.mono (HWR.out _ HU2.out HF2.out) ?_
    rintro e w3 ⟨rfl, hb3⟩
    have HK3 := hid (blk_below HK2.out hb3)
    have HU3 := hid (HU2.out.below hb3)
    have HF3 := hid (HF2.out.below hb3)
    have HB3 := hid (HB2.out.trans (hb3.mono HB2.out.size))
    clear HK2 HU2 HF2 HB2 hb3 HWR
    go_wp2_with (refine wpList_load_row rfl 26 _ rfl k (by rfl) 26 (x.cells (.slice au x.uids.length cu) (.slice af x.flags.length cf)) (0, 0) _ HK3.out Try.underlying26 rfl sizeReq ?_)
    refine Calls.mono (HWF.out _ HU3.out HF3.out) ?_
    rintro e w4 ⟨rfl, hb4⟩
    have HB4 := hid (HB3.out.trans (hb4.mono HB3.out.size))
    clear HK3 HU3 HF3 HB3 hb4 HWF
    go_wp2_with fail
    as_aux_lemma =>
      refine Calls.mono (HRR.out _) ?_
      rintro e w5 ⟨vu5, vf5, rfl, hu5, hf5, hb5⟩
      have HB5 := hid (HB4.out.trans (hb5.mono HB4.out.size))
      clear hb5 HB4
      obtain ⟨au5, cu5, eu5⟩ := hu5.form
      obtain ⟨af5, cf5, ef5⟩ := hf5.form
      subst eu5 ef5
      have hn5 := heap_alloc_new w5 (.cells reqZ 26)
      have hone5 := y.cells_one au5 af5 y.uids.length y.flags.length cu5 cf5
      go_upto_region 6 with (refine wpList_store_row rfl 26 _ _ rfl w5.heap.size (y.cells (.slice au5 y.uids.length cu5) (.slice af5 y.flags.length cf5)) (by rfl) (by rfl) 26 reqZ hn5 sizeReq rfl hone5 ?_)
      have hst5 := stored_below w5 (.cells #[.int .i64 0, .int .u64 0, .int .u64 0, .int .i64 0, .int .u64 0, .int .u64 0, .string { data := #[] }, .string { data := #[] }, .int .u64 0, .slice none 0 0, .slice none 0 0, .int .i64 0, .bool false, .int .u64 0, .string { data := #[] }, .int .u64 0, .int .u64 0] 26) (y.cells (.slice au5 y.uids.length cu5) (.slice af5 y.flags.length cf5))
      have HN5 := hid (setRow_heap (w5.alloc (.cells #[.int .i64 0, .int .u64 0, .int .u64 0, .int .i64 0, .int .u64 0, .int .u64 0, .string { data := #[] }, .string { data := #[] }, .int .u64 0, .slice none 0 0, .slice none 0 0, .int .i64 0, .bool false, .int .u64 0, .string { data := #[] }, .int .u64 0, .int .u64 0] 26)) w5.heap.size reqZ (y.cells (.slice au5 y.uids.length cu5) (.slice af5 y.flags.length cf5)) _ _ hn5)
      have HI5 := hid (hu5.below hst5)
      have HJ5 := hid (hf5.below hst5)
      have HS5 := hid (HB5.out.trans (hst5.mono HB5.out.size))
      clear hn5 hone5 hst5 HB5 hu5 hf5
      generalize (w5.alloc (.cells #[.int .i64 0, .int .u64 0, .int .u64 0, .int .i64 0, .int .u64 0, .int .u64 0, .string { data := #[] }, .string { data := #[] }, .int .u64 0, .slice none 0 0, .slice none 0 0, .int .i64 0, .bool false, .int .u64 0, .string { data := #[] }, .int .u64 0, .int .u64 0] 26)).setRow w5.heap.size (y.cells (.slice au5 y.uids.length cu5) (.slice af5 y.flags.length cf5)) = v5 at *
      generalize w5.heap.size = g5 at *
      go_wp2_with fail
      as_aux_lemma =>
        refine Calls.mono (HRF.out _) ?_
        rintro e w6 ⟨vu6, vf6, rfl, hu6, hf6, hb6⟩
        have HB6 := hid (HS5.out.trans (hb6.mono HS5.out.size))
        have HN5b := hid (blk_below HN5.out hb6)
        have HI5b := hid (HI5.out.below hb6)
        have HJ5b := hid (HJ5.out.below hb6)
        clear hb6 HS5 HN5 HI5 HJ5
        obtain ⟨au6, cu6, eu6⟩ := hu6.form
        obtain ⟨af6, cf6, ef6⟩ := hf6.form
        subst eu6 ef6
        have hn6 := heap_alloc_new w6 (.cells reqZ 26)
        have hone6 := y.cells_one au6 af6 y.uids.length y.flags.length cu6 cf6
        go_upto_region 7 with (refine wpList_store_row rfl 26 _ _ rfl w6.heap.size (y.cells (.slice au6 y.uids.length cu6) (.slice af6 y.flags.length cf6)) (by rfl) (by rfl) 26 reqZ hn6 sizeReq rfl hone6 ?_)
        have hst6 := stored_below w6 (.cells #[.int .i64 0, .int .u64 0, .int .u64 0, .int .i64 0, .int .u64 0, .int .u64 0, .string { data := #[] }, .string { data := #[] }, .int .u64 0, .slice none 0 0, .slice none 0 0, .int .i64 0, .bool false, .int .u64 0, .string { data := #[] }, .int .u64 0, .int .u64 0] 26) (y.cells (.slice au6 y.uids.length cu6) (.slice af6 y.flags.length cf6))
        have HN6 := hid (setRow_heap (w6.alloc (.cells #[.int .i64 0, .int .u64 0, .int .u64 0, .int .i64 0, .int .u64 0, .int .u64 0, .string { data := #[] }, .string { data := #[] }, .int .u64 0, .slice none 0 0, .slice none 0 0, .int .i64 0, .bool false, .int .u64 0, .string { data := #[] }, .int .u64 0, .int .u64 0] 26)) w6.heap.size reqZ (y.cells (.slice au6 y.uids.length cu6) (.slice af6 y.flags.length cf6)) _ _ hn6)
        have HI6 := hid (hu6.below hst6)
        have HJ6 := hid (hf6.below hst6)
        have HS6 := hid (HB6.out.trans (hst6.mono HB6.out.size))
        have HN5c := hid (blk_below HN5b.out hst6)
        have HI5c := hid (HI5b.out.below hst6)
        have HJ5c := hid (HJ5b.out.below hst6)
        clear hn6 hone6 hst6 HB6 hu6 hf6
        generalize (w6.alloc (.cells #[.int .i64 0, .int .u64 0, .int .u64 0, .int .i64 0, .int .u64 0, .int .u64 0, .string { data := #[] }, .string { data := #[] }, .int .u64 0, .slice none 0 0, .slice none 0 0, .int .i64 0, .bool false, .int .u64 0, .string { data := #[] }, .int .u64 0, .int .u64 0] 26)).setRow w6.heap.size (y.cells (.slice au6 y.uids.length cu6) (.slice af6 y.flags.length cf6)) = v6 at *
        generalize w6.heap.size = g6 at *
        have HSM := hid (fun W a b c d => sameRq_eq y (.slice au5 y.uids.length cu5) (.slice af5 y.flags.length cf5) (.slice au6 y.uids.length cu6) (.slice af6 y.flags.length cf6) W [] [] [] [] a b c d HRS.out.1 HRS.out.2)
        rcases HWC.out with ⟨rfl, rfl⟩ | ⟨rfl, rfl⟩
        · rcases HRC.out with rfl | rfl
          · as_aux_lemma =>
            clear HWC HRC
            simp only [decide_true, decide_false, show (decide ((4 : Nat) = 0)) = false from rfl, show (decide ((0 : Nat) = 0)) = true from rfl]
            go_wp2_with (first | (refine load_row_guarded rfl 26 _ rfl g5 (by rfl) 26 (y.cells (.slice au5 y.uids.length cu5) (.slice af5 y.flags.length cf5)) (0, 0) _ HN5c.out Try.underlying26 rfl sizeReq ?_) | (refine load_row_guarded rfl 26 _ rfl g6 (by rfl) 26 (y.cells (.slice au6 y.uids.length cu6) (.slice af6 y.flags.length cf6)) (0, 0) _ HN6.out Try.underlying26 rfl sizeReq ?_))
            refine Calls.mono (HSM.out _ HI5c.out HJ5c.out HI6.out HJ6.out) ?_
            rintro e w7 ⟨rfl, hb7⟩
            go_wp2_with fail
            go_ret
            exact ⟨rfl, HS6.out.trans (hb7.mono HS6.out.size)⟩
          · as_aux_lemma =>
            clear HWC HRC
            simp only [decide_true, decide_false, show (decide ((4 : Nat) = 0)) = false from rfl, show (decide ((0 : Nat) = 0)) = true from rfl]
            go_wp2_with (first | (refine load_row_guarded rfl 26 _ rfl g5 (by rfl) 26 (y.cells (.slice au5 y.uids.length cu5) (.slice af5 y.flags.length cf5)) (0, 0) _ HN5c.out Try.underlying26 rfl sizeReq ?_) | (refine load_row_guarded rfl 26 _ rfl g6 (by rfl) 26 (y.cells (.slice au6 y.uids.length cu6) (.slice af6 y.flags.length cf6)) (0, 0) _ HN6.out Try.underlying26 rfl sizeReq ?_))
            refine Calls.mono (HSM.out _ HI5c.out HJ5c.out HI6.out HJ6.out) ?_
            rintro e w7 ⟨rfl, hb7⟩
            go_wp2_with fail
            go_ret
            exact ⟨rfl, HS6.out.trans (hb7.mono HS6.out.size)⟩
        · rcases HRC.out with rfl | rfl
          · as_aux_lemma =>
            clear HWC HRC
            simp only [decide_true, decide_false, show (decide ((4 : Nat) = 0)) = false from rfl, show (decide ((0 : Nat) = 0)) = true from rfl]
            go_wp2_with (first | (refine load_row_guarded rfl 26 _ rfl g5 (by rfl) 26 (y.cells (.slice au5 y.uids.length cu5) (.slice af5 y.flags.length cf5)) (0, 0) _ HN5c.out Try.underlying26 rfl sizeReq ?_) | (refine load_row_guarded rfl 26 _ rfl g6 (by rfl) 26 (y.cells (.slice au6 y.uids.length cu6) (.slice af6 y.flags.length cf6)) (0, 0) _ HN6.out Try.underlying26 rfl sizeReq ?_))
            refine Calls.mono (HSM.out _ HI5c.out HJ5c.out HI6.out HJ6.out) ?_
            rintro e w7 ⟨rfl, hb7⟩
            go_wp2_with fail
            go_ret
            exact ⟨rfl, HS6.out.trans (hb7.mono HS6.out.size)⟩
          · as_aux_lemma =>
            clear HWC HRC
            simp only [decide_true, decide_false, show (decide ((4 : Nat) = 0)) = false from rfl, show (decide ((0 : Nat) = 0)) = true from rfl]
            go_wp2_with (first | (refine load_row_guarded rfl 26 _ rfl g5 (by rfl) 26 (y.cells (.slice au5 y.uids.length cu5) (.slice af5 y.flags.length cf5)) (0, 0) _ HN5c.out Try.underlying26 rfl sizeReq ?_) | (refine load_row_guarded rfl 26 _ rfl g6 (by rfl) 26 (y.cells (.slice au6 y.uids.length cu6) (.slice af6 y.flags.length cf6)) (0, 0) _ HN6.out Try.underlying26 rfl sizeReq ?_))
            refine Calls.mono (HSM.out _ HI5c.out HJ5c.out HI6.out HJ6.out) ?_
            rintro e w7 ⟨rfl, hb7⟩
            go_wp2_with fail
            go_ret
            exact ⟨rfl, HS6.out.trans (hb7.mono HS6.out.size)⟩
theorem wireRequests_walk (x : Rq) (vu vf : Value) (t : ByteArray) (ht : t.size ≤ maxLen) (w : World) (hx : RqArg x vu vf w) :
    Calls Try.prog 3 #[.agg (x.cells vu vf), .string t] w fun e w' => e = .returned (.bool true) ∧ Below w.heap.size w w' := by
  obtain ⟨h1, h2, h3, _, _, h6, h7, h8, h9⟩ := hx
  rw [← str_of t]
  exact wireRequests_at x t.data.toList vu vf w h1 h2 h6 h7 h8 h9 h3 (by rw [len_of]; exact ht)
end Go.Proofs.Ytgkapgfpalbkjaa
