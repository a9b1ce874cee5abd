/-
  The walk of WireOne.
-/
import Derived.Test.YtgkapgfpalbkjaaWAlive
import Derived.Test.YtgkapgfpalbkjaaWSame2
namespace Go.Proofs.Ytgkapgfpalbkjaa
open Go.RowKit
set_option linter.unusedVariables false
set_option linter.unusedSimpArgs false
set_option maxRecDepth 100000 in
set_option maxHeartbeats 4000000 in
theorem wireOne_big (s t : Bytes) (hs : s.length ≤ maxLen) (ht : t.length ≤ maxLen) (hbig : 65536 < s.length ∨ 131072 < t.length) (w : World) :
    Calls Try.prog 6 #[.string (str s), .string (str t)] w fun e w' => e = .returned (.bool true) ∧ Below w.heap.size w w' := by
  have z1 : (str s).size = s.length := str_size _
  have z2 : (str t).size = t.length := str_size _
  unfold maxLen at hs ht
  by_cases h1 : 65536 < s.length
  · clear hbig
    go_enter Try.func6, Try.ntmps6
    go_wp2_with fail
    refine Calls.mono (alive_any _) ?_
    rintro e w1 ⟨rfl, hb1⟩
    go_wp2_with fail
    refine Calls.mono (alive_any _) ?_
    rintro e w2 ⟨rfl, hb2⟩
    go_wp2_with fail
    go_ret
    exact ⟨rfl, hb1.trans (hb2.mono hb1.size)⟩
  · have h2 : 131072 < t.length := by omega
    clear hbig
    go_enter Try.func6, Try.ntmps6
    go_wp2_with fail
    refine Calls.mono (alive_any _) ?_
    rintro e w1 ⟨rfl, hb1⟩
    go_wp2_with fail
    refine Calls.mono (alive_any _) ?_
    rintro e w2 ⟨rfl, hb2⟩
    go_wp2_with fail
    go_ret
    exact ⟨rfl, hb1.trans (hb2.mono hb1.size)⟩
theorem stored_below (w : World) (o : Obj) (cs : Array Value) : Below w.heap.size w ((w.alloc o).setRow w.heap.size cs) := below_row ((Below.refl _ _).alloc (Nat.le_refl _) _) (Nat.le_refl _) _
theorem rqOut_zero (s : Bytes) (h : (rdRq s).2 ≠ 0) : (rdRq s).1 = Rq.zero := by
  unfold rdRq rqOut at *
  split at h
  · exact absurd rfl h
  · rename_i hc; rw [if_neg hc]
theorem rdMs_zero (u : Bytes) (h : (rdMs u).2 ≠ 0) : (rdMs u).1 = Ms.zero := by
  unfold rdMs at *
  by_cases h1 : (cutOf u).2.2 ≠ 0
  · rw [if_pos h1]
  rw [if_neg h1] at h ⊢
  by_cases h2 : (cutOf u).2.1 < u.length
  · rw [if_pos h2]
  rw [if_neg h2] at h ⊢
  generalize msChain (cutOf u).1 = q at *
  unfold msOut at *
  split at h
  · exact absurd rfl h
  · rename_i hc; rw [if_neg hc]
theorem mayRq_lens {x : Rq} (h : mayRq x = true) : x.uids.length ≤ 1152921504606846976 ∧ x.flags.length ≤ 1152921504606846976 ∧ (∀ f ∈ x.flags, f.length ≤ maxLen) ∧ x.box.length ≤ maxLen ∧ x.dest.length ≤ maxLen ∧ x.hash.length ≤ maxLen := by
  have hp := mayRq_parts h
  obtain ⟨_, _, p3, p4, p5, p6, p7, p8, _, p10⟩ := hp
  unfold maxLen
  exact ⟨by omega, by omega, fun f hf => by have := p8 f hf; omega, by omega, by omega, by omega⟩
theorem mayMs_lens {x : Ms} (h : mayMs x = true) : x.entries.length ≤ 1152921504606846976 ∧ x.conf.length ≤ 1152921504606846976 ∧ (∀ e ∈ x.entries, e.data.length ≤ maxLen) ∧ x.data.length ≤ maxLen := by
  have hp := mayMs_parts h
  obtain ⟨_, _, _, p4, p5, p6, p7, _, _, p10⟩ := hp
  unfold maxLen
  exact ⟨by omega, by omega, fun e he => by have := p5 e he; omega, by omega⟩
theorem msWrite_read {u : Bytes} (h : (rdMs u).2 = 0) : msWrite (rdMs u).1 = (u, 0) := by
  obtain ⟨h1, h2⟩ := rdMs_one u h
  unfold msWrite
  rw [if_pos h1, h2]
theorem rqWrite_read {s : Bytes} (h : (rdRq s).2 = 0) : rqWrite (rdRq s).1 = (s, 0) := by
  obtain ⟨h1, h2⟩ := rdRq_one s h
  unfold rqWrite
  rw [if_pos h1, h2]
set_option maxRecDepth 100000 in
set_option maxHeartbeats 4000000 in
theorem wireOne_at (s t : Bytes) (hs : s.length ≤ 65536) (ht : t.length ≤ 131072) (w : World) :
    Calls Try.prog 6 #[.string (str s), .string (str t)] w fun e w' => e = .returned (.bool true) ∧ Below w.heap.size w w' := by
  have z1 : (str s).size = s.length := str_size _
  have z2 : (str t).size = t.length := str_size _
  have RQ := hid (fun W => readRq_any s (by omega) W)
  have RM := hid (fun W => readMs_any t (by omega) W)
  have hq1 := hid (fun h => rqWrite_read (s := s) h)
  have hq2 := hid (rdRq_fit s)
  have hq3 := hid (fun h => mayRq_lens (rdRq_one s h).1)
  have hm1 := hid (fun h => msWrite_read (u := t) h)
  have hm2 := hid (rdMs_fit t)
  have hm3 := hid (fun h => mayMs_lens (rdMs_one t h).1)
  have hm4 := hid (fun h => rdMs_zero t h)
  generalize rdRq s = q at *
  generalize rdMs t = p at *
  obtain ⟨x, ex⟩ := q
  obtain ⟨m, em⟩ := p
  simp only at RQ RM hq1 hq2 hq3 hm1 hm2 hm3 hm4
  go_enter Try.func6, Try.ntmps6
  go_wp2_with fail
  refine Calls.mono (alive_any _) ?_
  rintro e w1 ⟨rfl, hb1⟩
  have HB1 := hid hb1
  clear hb1
  go_wp2_with fail
  refine Calls.mono (RQ.out _) ?_
  rintro e w2 ⟨vu, vf, rfl, hu, hf, hb2⟩
  have HB2 := hid (HB1.out.trans (hb2.mono HB1.out.size))
  obtain ⟨au, cu, eu⟩ := hu.form
  obtain ⟨af, cf, ef⟩ := hf.form
  subst eu ef
  have HU := hid hu
  have HF := hid hf
  clear hu hf hb2 RQ HB1
  have hn2 := heap_alloc_new w2 (.cells reqZ 26)
  have hone2 := x.cells_one au af x.uids.length x.flags.length cu cf
  go_upto_region 4 with (refine wpList_store_row rfl 26 _ _ rfl w2.heap.size (x.cells (.slice au x.uids.length cu) (.slice af x.flags.length cf)) (by rfl) (by rfl) 26 reqZ hn2 sizeReq rfl hone2 ?_)
  have hst2 := stored_below w2 (.cells #[.int .i64 0, .int .u64 0, .int .u64 0, .int .i64 0, .int .u64 0, .int .u64 0, .string { data := #[] }, .string { data := #[] }, .int .u64 0, .slice none 0 0, .slice none 0 0, .int .i64 0, .bool false, .int .u64 0, .string { data := #[] }, .int .u64 0, .int .u64 0] 26) (x.cells (.slice au x.uids.length cu) (.slice af x.flags.length cf))
  have HK3 := hid (setRow_heap (w2.alloc (.cells #[.int .i64 0, .int .u64 0, .int .u64 0, .int .i64 0, .int .u64 0, .int .u64 0, .string { data := #[] }, .string { data := #[] }, .int .u64 0, .slice none 0 0, .slice none 0 0, .int .i64 0, .bool false, .int .u64 0, .string { data := #[] }, .int .u64 0, .int .u64 0] 26)) w2.heap.size reqZ (x.cells (.slice au x.uids.length cu) (.slice af x.flags.length cf)) _ _ hn2)
  have HU3 := hid (HU.out.below hst2)
  have HF3 := hid (HF.out.below hst2)
  have HB3 := hid (HB2.out.trans (hst2.mono HB2.out.size))
  clear hn2 hone2 hst2 HU HF HB2
  generalize (w2.alloc (.cells #[.int .i64 0, .int .u64 0, .int .u64 0, .int .i64 0, .int .u64 0, .int .u64 0, .string { data := #[] }, .string { data := #[] }, .int .u64 0, .slice none 0 0, .slice none 0 0, .int .i64 0, .bool false, .int .u64 0, .string { data := #[] }, .int .u64 0, .int .u64 0] 26)).setRow w2.heap.size (x.cells (.slice au x.uids.length cu) (.slice af x.flags.length cf)) = w3 at *
  generalize w2.heap.size = g2 at *
  by_cases hex : ex = 0
  · subst hex
    have H3 := hq3.out rfl
    have H1 := hq1.out rfl
    have HW := hid (writeRq_any x _ _ w3 [] HU3.out HF3.out H3.1 H3.2.1 H3.2.2.1 H3.2.2.2.1 H3.2.2.2.2.1 H3.2.2.2.2.2 hq2.out)
    rw [H1] at HW
    clear H3 H1
    go_wp2_with (refine wpList_load_row rfl 26 _ rfl g2 (by rfl) 26 (x.cells (.slice au x.uids.length cu) (.slice af x.flags.length cf)) (0, 0) _ HK3.out Try.underlying26 rfl sizeReq ?_)
    refine Calls.mono HW.out ?_
    rintro e w5 ⟨rfl, hb5⟩
    have HB5 := hid (HB3.out.trans (hb5.mono HB3.out.size))
    clear hb5 HW HU3 HF3 HK3 hq1 hq2 hq3
    go_wp2_with fail
    refine Calls.mono (RM.out _) ?_
    rintro e w6 ⟨ve, vc, rfl, he, hc, hb6⟩
    have HB6 := hid (HB5.out.trans (hb6.mono HB5.out.size))
    obtain ⟨ae, ce, ee⟩ := he.form
    obtain ⟨ac, cc, ec⟩ := hc.form
    subst ee ec
    have hn6 := heap_alloc_new w6 (.cells msgZ 32)
    have hone6 := m.cells_one ae ac m.entries.length m.conf.length ce cc
    go_upto_region 9 with (refine wpList_store_row rfl 32 _ _ rfl w6.heap.size (m.cells (.slice ae m.entries.length ce) (.slice ac m.conf.length cc)) (by rfl) (by rfl) 32 msgZ hn6 sizeMsg rfl hone6 ?_)
    have hst6 := stored_below w6 (.cells #[.int .i64 0, .int .i64 0, .int .i64 0, .int .u64 0, .int .u64 0, .int .u64 0, .int .u64 0, .bool false, .slice none 0 0, .slice none 0 0, .int .i64 0, .int .i64 0, .string { data := #[] }] 32) (m.cells (.slice ae m.entries.length ce) (.slice ac m.conf.length cc))
    have HM7 := hid (setRow_heap (w6.alloc (.cells #[.int .i64 0, .int .i64 0, .int .i64 0, .int .u64 0, .int .u64 0, .int .u64 0, .int .u64 0, .bool false, .slice none 0 0, .slice none 0 0, .int .i64 0, .int .i64 0, .string { data := #[] }] 32)) w6.heap.size msgZ (m.cells (.slice ae m.entries.length ce) (.slice ac m.conf.length cc)) _ _ hn6)
    have HE := hid (he.below hst6)
    have HC := hid (hc.below hst6)
    have HB7 := hid (HB6.out.trans (hst6.mono HB6.out.size))
    clear hn6 hone6 hst6 he hc hb6
    generalize (w6.alloc (.cells #[.int .i64 0, .int .i64 0, .int .i64 0, .int .u64 0, .int .u64 0, .int .u64 0, .int .u64 0, .bool false, .slice none 0 0, .slice none 0 0, .int .i64 0, .int .i64 0, .string { data := #[] }] 32)).setRow w6.heap.size (m.cells (.slice ae m.entries.length ce) (.slice ac m.conf.length cc)) = w7 at *
    generalize w6.heap.size = g6 at *
    by_cases hem : em = 0
    · subst hem
      have H3 := hm3.out rfl
      have H1 := hm1.out rfl
      have HW := hid (writeMs_any m _ _ w7 [] HE.out HC.out H3.1 H3.2.1 H3.2.2.1 H3.2.2.2 hm2.out)
      rw [H1] at HW
      clear H3 H1
      go_wp2_with (refine wpList_load_row rfl 32 _ rfl g6 (by rfl) 32 (m.cells (.slice ae m.entries.length ce) (.slice ac m.conf.length cc)) (0, 0) _ HM7.out Try.underlying32 rfl sizeMsg ?_)
      refine Calls.mono HW.out ?_
      rintro e w8 ⟨rfl, hb8⟩
      go_wp2_with fail
      go_ret
      exact ⟨rfl, HB7.out.trans (hb8.mono HB7.out.size)⟩
    · obtain rfl : m = Ms.zero := hm4.out hem
      have hem1 : ((em : Int) == 0) = false := by simpa using hem
      have hem2 : ((em : Int) != 0) = true := by simpa using hem
      have HW := hid (sameMs_eq Ms.zero _ _ (.slice none 0 0) (.slice none 0 0) w7 [] [] [] [] HE.out HC.out (Cells.nil _ _) (Cells.nil _ _) (by decide) (by decide))
      go_wp2_with (refine wpList_load_row rfl 32 _ rfl g6 (by rfl) 32 (Ms.zero.cells (.slice ae Ms.zero.entries.length ce) (.slice ac Ms.zero.conf.length cc)) (0, 0) _ HM7.out Try.underlying32 rfl sizeMsg ?_)
      refine Calls.mono HW.out ?_
      rintro e w8 ⟨rfl, hb8⟩
      go_wp2_with fail
      go_ret
      exact ⟨rfl, HB7.out.trans (hb8.mono HB7.out.size)⟩
  · have hex1 : ((ex : Int) == 0) = false := by simpa using hex
    have hex2 : ((ex : Int) != 0) = true := by simpa using hex
    have HB5 := HB3
    clear HU3 HF3 HK3 hq1 hq2 hq3
    go_wp2_with fail
    refine Calls.mono (RM.out _) ?_
    rintro e w6 ⟨ve, vc, rfl, he, hc, hb6⟩
    have HB6 := hid (HB5.out.trans (hb6.mono HB5.out.size))
    obtain ⟨ae, ce, ee⟩ := he.form
    obtain ⟨ac, cc, ec⟩ := hc.form
    subst ee ec
    have hn6 := heap_alloc_new w6 (.cells msgZ 32)
    have hone6 := m.cells_one ae ac m.entries.length m.conf.length ce cc
    go_upto_region 9 with (refine wpList_store_row rfl 32 _ _ rfl w6.heap.size (m.cells (.slice ae m.entries.length ce) (.slice ac m.conf.length cc)) (by rfl) (by rfl) 32 msgZ hn6 sizeMsg rfl hone6 ?_)
    have hst6 := stored_below w6 (.cells #[.int .i64 0, .int .i64 0, .int .i64 0, .int .u64 0, .int .u64 0, .int .u64 0, .int .u64 0, .bool false, .slice none 0 0, .slice none 0 0, .int .i64 0, .int .i64 0, .string { data := #[] }] 32) (m.cells (.slice ae m.entries.length ce) (.slice ac m.conf.length cc))
    have HM7 := hid (setRow_heap (w6.alloc (.cells #[.int .i64 0, .int .i64 0, .int .i64 0, .int .u64 0, .int .u64 0, .int .u64 0, .int .u64 0, .bool false, .slice none 0 0, .slice none 0 0, .int .i64 0, .int .i64 0, .string { data := #[] }] 32)) w6.heap.size msgZ (m.cells (.slice ae m.entries.length ce) (.slice ac m.conf.length cc)) _ _ hn6)
    have HE := hid (he.below hst6)
    have HC := hid (hc.below hst6)
    have HB7 := hid (HB6.out.trans (hst6.mono HB6.out.size))
    clear hn6 hone6 hst6 he hc hb6
    generalize (w6.alloc (.cells #[.int .i64 0, .int .i64 0, .int .i64 0, .int .u64 0, .int .u64 0, .int .u64 0, .int .u64 0, .bool false, .slice none 0 0, .slice none 0 0, .int .i64 0, .int .i64 0, .string { data := #[] }] 32)).setRow w6.heap.size (m.cells (.slice ae m.entries.length ce) (.slice ac m.conf.length cc)) = w7 at *
    generalize w6.heap.size = g6 at *
    by_cases hem : em = 0
    · subst hem
      have H3 := hm3.out rfl
      have H1 := hm1.out rfl
      have HW := hid (writeMs_any m _ _ w7 [] HE.out HC.out H3.1 H3.2.1 H3.2.2.1 H3.2.2.2 hm2.out)
      rw [H1] at HW
      clear H3 H1
      go_wp2_with (refine wpList_load_row rfl 32 _ rfl g6 (by rfl) 32 (m.cells (.slice ae m.entries.length ce) (.slice ac m.conf.length cc)) (0, 0) _ HM7.out Try.underlying32 rfl sizeMsg ?_)
      refine Calls.mono HW.out ?_
      rintro e w8 ⟨rfl, hb8⟩
      go_wp2_with fail
      go_ret
      exact ⟨rfl, HB7.out.trans (hb8.mono HB7.out.size)⟩
    · obtain rfl : m = Ms.zero := hm4.out hem
      have hem1 : ((em : Int) == 0) = false := by simpa using hem
      have hem2 : ((em : Int) != 0) = true := by simpa using hem
      have HW := hid (sameMs_eq Ms.zero _ _ (.slice none 0 0) (.slice none 0 0) w7 [] [] [] [] HE.out HC.out (Cells.nil _ _) (Cells.nil _ _) (by decide) (by decide))
      go_wp2_with (refine wpList_load_row rfl 32 _ rfl g6 (by rfl) 32 (Ms.zero.cells (.slice ae Ms.zero.entries.length ce) (.slice ac Ms.zero.conf.length cc)) (0, 0) _ HM7.out Try.underlying32 rfl sizeMsg ?_)
      refine Calls.mono HW.out ?_
      rintro e w8 ⟨rfl, hb8⟩
      go_wp2_with fail
      go_ret
      exact ⟨rfl, HB7.out.trans (hb8.mono HB7.out.size)⟩
theorem wireOne_walk (s : ByteArray) (hs : s.size ≤ maxLen) (t : ByteArray) (ht : t.size ≤ maxLen) (w : World) :
    Calls Try.prog 6 #[.string s, .string t] w fun e w' => e = .returned (.bool true) ∧ Below w.heap.size w w' := by
  rw [← str_of s, ← str_of t]
  have h1 : s.data.toList.length ≤ maxLen := by rw [len_of]; exact hs
  have h2 : t.data.toList.length ≤ maxLen := by rw [len_of]; exact ht
  by_cases hb : 65536 < s.data.toList.length ∨ 131072 < t.data.toList.length
  · exact wireOne_big _ _ h1 h2 hb w
  · exact wireOne_at _ _ (by omega) (by omega) w
end Go.Proofs.Ytgkapgfpalbkjaa
