/-
  The walk of WireSpoilt.
-/
import Derived.Test.YtgkapgfpalbkjaaWireOneW
import Derived.Test.YtgkapgfpalbkjaaWLight
import Derived.Test.YtgkapgfpalbkjaaWOpen
import Derived.Test.YtgkapgfpalbkjaaWSpoiltP
namespace Go.Proofs.Ytgkapgfpalbkjaa
open Go.RowKit
set_option linter.unusedVariables false
set_option linter.unusedSimpArgs false
set_option maxRecDepth 100000 in
set_option maxHeartbeats 8000000 in
theorem wireSpoilt_at (m : Ms) (ve vc : Value) (kk : Int) (wk : (Lit.int .i64 kk).wf = true) (y : UInt8) (bh : Bytes) (hbh : bh.length ≤ 140737488351232) (w : World) (he : Cells [] w ve m.entries.length (enVals m.entries)) (hc : Cells [] w vc m.conf.length (intVals m.conf)) (he2 : ∀ e ∈ m.entries, e.data.length ≤ maxLen) (hdd : m.data.length ≤ maxLen) (hmf : m.fit) :
    Calls Try.prog 7 #[.agg (m.cells ve vc), .int .i64 kk, .int .u8 (y.toNat : Int), .string (str bh)] w fun e w' => e = .returned (.bool true) ∧ Below w.heap.size w w' := by
  obtain ⟨ae, ce, rfl⟩ := he.form
  obtain ⟨ac, cc, rfl⟩ := hc.form
  have hkk : -9223372036854775808 ≤ kk ∧ kk ≤ 9223372036854775807 := by simpa [Lit.wf, IntKind.min, IntKind.max, IntKind.signed, IntKind.bits] using wk
  obtain ⟨hkk0, hkk1⟩ := hkk
  clear wk
  have hm := heap_alloc_new w (.cells #[.int .i64 m.kind, .int .i64 m.src, .int .i64 m.dest, .int .u64 m.term, .int .u64 m.index, .int .u64 m.logTerm, .int .u64 m.commit, .bool m.ok, .slice ae m.entries.length ce, .slice ac m.conf.length cc, .int .i64 m.offset, .int .i64 m.size, .string (str m.data)] 32)
  have hB : Below w.heap.size w (w.alloc (.cells #[.int .i64 m.kind, .int .i64 m.src, .int .i64 m.dest, .int .u64 m.term, .int .u64 m.index, .int .u64 m.logTerm, .int .u64 m.commit, .bool m.ok, .slice ae m.entries.length ce, .slice ac m.conf.length cc, .int .i64 m.offset, .int .i64 m.size, .string (str m.data)] 32)) := (Below.refl _ _).alloc (Nat.le_refl _) _
  have HB := hid hB
  have HE := hid (he.kept (fun j hj _ => hB.block j hj))
  have HC := hid (hc.kept (fun j hj _ => hB.block j hj))
  have LI := hid (fun (W : World) he hc => light_any Rq.zero m (.slice none 0 0) (.slice none 0 0) (.slice ae m.entries.length ce) (.slice ac m.conf.length cc) W [] [] [] [] (Cells.nil _ _) (Cells.nil _ _) he hc (by intro f hf; simp [Rq.zero] at hf) he2 (by decide) (by decide) (by decide) hdd)
  have HML := hid (show (∀ e ∈ m.entries, e.data.length ≤ maxLen) ∧ m.data.length ≤ maxLen from ⟨he2, hdd⟩)
  have HMF := hid hmf
  clear he hc hB he2 hdd hmf
  unfold Ms.cells
  go_enter Try.func7, Try.ntmps7
  go_wp2_with fail
  generalize w.alloc (.cells #[.int .i64 m.kind, .int .i64 m.src, .int .i64 m.dest, .int .u64 m.term, .int .u64 m.index, .int .u64 m.logTerm, .int .u64 m.commit, .bool m.ok, .slice ae m.entries.length ce, .slice ac m.conf.length cc, .int .i64 m.offset, .int .i64 m.size, .string (str m.data)] 32) = W0 at *
  generalize hke : w.heap.size = g at hm ⊢
  clear hke
  refine Calls.mono (alive_any _) ?_
  rintro e w1 ⟨rfl, hb1⟩
  have HG1 := hid (blk_below hm hb1)
  have HE1 := hid (HE.out.below hb1)
  have HC1 := hid (HC.out.below hb1)
  have HB1 := hid (HB.out.trans (hb1.mono HB.out.size))
  clear hm HE HC HB hb1
  have q0 : w1.cell? ⟨g, 0, none⟩ = some (.int .i64 m.kind) := cell_in HG1.out 0 _ rfl
  have q1 : w1.cell? ⟨g, 1, none⟩ = some (.int .i64 m.src) := cell_in HG1.out 1 _ rfl
  have q2 : w1.cell? ⟨g, 2, none⟩ = some (.int .i64 m.dest) := cell_in HG1.out 2 _ rfl
  have q3 : w1.cell? ⟨g, 3, none⟩ = some (.int .u64 m.term) := cell_in HG1.out 3 _ rfl
  have q4 : w1.cell? ⟨g, 4, none⟩ = some (.int .u64 m.index) := cell_in HG1.out 4 _ rfl
  have q5 : w1.cell? ⟨g, 5, none⟩ = some (.int .u64 m.logTerm) := cell_in HG1.out 5 _ rfl
  have q6 : w1.cell? ⟨g, 6, none⟩ = some (.int .u64 m.commit) := cell_in HG1.out 6 _ rfl
  have q7 : w1.cell? ⟨g, 7, none⟩ = some (.bool m.ok) := cell_in HG1.out 7 _ rfl
  have q8 : w1.cell? ⟨g, 8, none⟩ = some (.slice ae m.entries.length ce) := cell_in HG1.out 8 _ rfl
  have q9 : w1.cell? ⟨g, 9, none⟩ = some (.slice ac m.conf.length cc) := cell_in HG1.out 9 _ rfl
  have q10 : w1.cell? ⟨g, 10, none⟩ = some (.int .i64 m.offset) := cell_in HG1.out 10 _ rfl
  have q11 : w1.cell? ⟨g, 11, none⟩ = some (.int .i64 m.size) := cell_in HG1.out 11 _ rfl
  have q12 : w1.cell? ⟨g, 12, none⟩ = some (.string (str m.data)) := cell_in HG1.out 12 _ rfl
  go_wp2_with fail
  clear q0 q1 q2 q3 q4 q5 q6 q7 q8 q9 q10 q11 q12
  refine Calls.mono (LI.out _ HE1.out HC1.out) ?_
  rintro e w2 ⟨b, rfl, hlb, hb2⟩
  have HG2 := hid (blk_below HG1.out hb2)
  have HE2 := hid (HE1.out.below hb2)
  have HC2 := hid (HC1.out.below hb2)
  have HB2 := hid (HB1.out.trans (hb2.mono HB1.out.size))
  clear HG1 HE1 HC1 HB1 LI hb2
  cases b
  · clear hlb
    go_wp2_with fail
    refine Calls.mono (alive_any _) ?_
    rintro e w3 ⟨rfl, hb3⟩
    go_wp2_with fail
    go_ret
    exact ⟨rfl, HB2.out.trans (hb3.mono HB2.out.size)⟩
  have HLN := hid (hlb rfl)
  clear hlb
  have HWM := hid (writeMs_any m _ _ w2 [] HE2.out HC2.out (by have := HLN.out; omega) (by have := HLN.out; omega) HML.out.1 HML.out.2 HMF.out)
  cases hmm : mayMs m
  · have hwm : msWrite m = ([], 1) := by unfold msWrite; rw [hmm]; rfl
    rw [hwm] at HWM
    clear hwm
    go_wp2_with (refine wpList_load_row rfl 32 _ rfl g (by rfl) 32 (m.cells (.slice ae m.entries.length ce) (.slice ac m.conf.length cc)) (0, 0) _ HG2.out Try.underlying32 rfl sizeMsg ?_)
    refine Calls.mono HWM.out ?_
    rintro e w7 ⟨rfl, hb7⟩
    go_wp2_with fail
    go_ret
    exact ⟨rfl, HB2.out.trans (hb7.mono HB2.out.size)⟩
  have hwm : msWrite m = (frame m.body, 0) := by unfold msWrite; rw [if_pos hmm, frameOf_body _ hmm]
  have hbl := body_len m hmm
  have hfl := frame_length m.body
  have HT := hid (fun k hk => spoilt_turn m.body hbl k hk y m hmm HMF.out rfl)
  have HK := hid (fun k hk => rdMs_torn m.body hbl k hk)
  have HR := hid (rdMs_back m hmm HMF.out bh)
  rw [hwm] at HWM
  clear hwm hmm
  generalize frame m.body = fb at *
  have hf8 : 8 ≤ fb.length := by omega
  have hf9 : fb.length ≤ 65544 := by omega
  clear hfl hbl
  have hzf : (str fb).size = fb.length := str_size _
  have hzb : (str bh).size = bh.length := str_size _
  obtain ⟨u, k, hu, hk, hklt⟩ := spoilt_place kk fb.length (by omega)
  have HT1 := hid (HT.out k hklt)
  have HK1 := hid (HK.out k hklt)
  have hx := xor_u8' fb[k] y
  have hbit := fb[k].toNat_lt
  have hfk := hid (rfl : fb[k] = fb[k])
  clear HT HK
  go_wp2_with (refine wpList_load_row rfl 32 _ rfl g (by rfl) 32 (m.cells (.slice ae m.entries.length ce) (.slice ac m.conf.length cc)) (0, 0) _ HG2.out Try.underlying32 rfl sizeMsg ?_)
  refine Calls.mono HWM.out ?_
  rintro e w3 ⟨rfl, hb3⟩
  have HB3 := hid (HB2.out.trans (hb3.mono HB2.out.size))
  clear HWM HG2 HE2 HC2 HB2 hb3
  obtain ⟨cap, w4, hrun, hcap, hcell, hfree, hbel, hsize⟩ := bytes_made (P := Try.prog) w3 9 53 5 (str fb) Try.underlying9 Try.underlying53 Try.underlying5
  rw [str_data] at hcell
  rw [hzf] at hrun hfree hcap
  have hc1 := hcell k hklt
  have hf1 := hfree k hklt
  generalize fb[k] ^^^ y = z at hx HT1
  have hback := bytes_back (P := Try.prog) (w4.setCell ⟨w3.heap.size, k, none⟩ (.int .u8 (z.toNat : Int))) 53 9 5 w3.heap.size cap
    (fb.set k z) Try.underlying53 Try.underlying5 Try.underlying9 (bytes_set hcell k _ hklt)
  rw [List.length_set] at hback
  clear hcell hfree
  have HB4 := hid (HB3.out.trans ((hbel.setCell (p := ⟨w3.heap.size, k, none⟩) (Nat.le_refl _) (.int .u8 (z.toNat : Int))).mono HB3.out.size))
  have HL5 := hid (show (fb.set k z).length ≤ 1152921504606846976 by rw [List.length_set]; omega)
  clear hbel
  go_wp2_with fail
  refine Calls.mono (readMs_any (fb.set k z) HL5.out _) ?_
  rintro e w5 ⟨ve5, vc5, rfl, he5, hc5, hb5⟩
  have HB5 := hid (HB4.out.trans (hb5.mono HB4.out.size))
  clear hback hb5 HB4 HL5 hrun hc1 hf1 hx hsize
  generalize rdMs (fb.set k z) = q5 at *
  obtain ⟨m5, e5⟩ := q5
  simp only at HT1 he5 hc5 ⊢
  obtain ⟨ae5, ce5, ee5⟩ := he5.form
  obtain ⟨ac5, cc5, ec5⟩ := hc5.form
  subst ee5 ec5
  clear he5 hc5
  have hn5 := heap_alloc_new w5 (.cells msgZ 32)
  have hone5 := m5.cells_one ae5 ac5 m5.entries.length m5.conf.length ce5 cc5
  go_upto_region 10 with (refine wpList_store_row rfl 32 _ _ rfl w5.heap.size (m5.cells (.slice ae5 m5.entries.length ce5) (.slice ac5 m5.conf.length cc5)) (by rfl) (by rfl) 32 msgZ hn5 sizeMsg rfl hone5 ?_)
  have hst5 := stored_below w5 (.cells #[.int .i64 0, .int .i64 0, .int .i64 0, .int .u64 0, .int .u64 0, .int .u64 0, .int .u64 0, .bool false, .slice none 0 0, .slice none 0 0, .int .i64 0, .int .i64 0, .string { data := #[] }] 32) (m5.cells (.slice ae5 m5.entries.length ce5) (.slice ac5 m5.conf.length cc5))
  have HS5 := hid (HB5.out.trans (hst5.mono HB5.out.size))
  clear hn5 hone5 hst5 HB5
  generalize (w5.alloc (.cells #[.int .i64 0, .int .i64 0, .int .i64 0, .int .u64 0, .int .u64 0, .int .u64 0, .int .u64 0, .bool false, .slice none 0 0, .slice none 0 0, .int .i64 0, .int .i64 0, .string { data := #[] }] 32)).setRow w5.heap.size (m5.cells (.slice ae5 m5.entries.length ce5) (.slice ac5 m5.conf.length cc5)) = v5 at *
  generalize w5.heap.size = g5 at *
  have hex : (str fb).extract 0 k = str (fb.take k) := by rw [extract_str, str_data, Nat.sub_zero, List.drop_zero]
  have HL6 := hid (show (fb.take k).length ≤ 1152921504606846976 by rw [List.length_take]; omega)
  go_wp2_with fail
  refine Calls.mono (readMs_any (fb.take k) HL6.out _) ?_
  rintro e w6 ⟨ve6, vc6, rfl, he6, hc6, hb6⟩
  have HB6 := hid (HS5.out.trans (hb6.mono HS5.out.size))
  clear hb6 HS5 HL6 hex
  generalize rdMs (fb.take k) = q6 at *
  obtain ⟨m6, e6⟩ := q6
  simp only at HK1 he6 hc6 ⊢
  obtain rfl : e6 = 3 := HK1.out
  clear HK1
  obtain ⟨ae6, ce6, ee6⟩ := he6.form
  obtain ⟨ac6, cc6, ec6⟩ := hc6.form
  subst ee6 ec6
  clear he6 hc6
  have hn6 := heap_alloc_new w6 (.cells msgZ 32)
  have hone6 := m6.cells_one ae6 ac6 m6.entries.length m6.conf.length ce6 cc6
  go_upto_region 11 with (refine wpList_store_row rfl 32 _ _ rfl w6.heap.size (m6.cells (.slice ae6 m6.entries.length ce6) (.slice ac6 m6.conf.length cc6)) (by rfl) (by rfl) 32 msgZ hn6 sizeMsg rfl hone6 ?_)
  have hst6 := stored_below w6 (.cells #[.int .i64 0, .int .i64 0, .int .i64 0, .int .u64 0, .int .u64 0, .int .u64 0, .int .u64 0, .bool false, .slice none 0 0, .slice none 0 0, .int .i64 0, .int .i64 0, .string { data := #[] }] 32) (m6.cells (.slice ae6 m6.entries.length ce6) (.slice ac6 m6.conf.length cc6))
  have HS6 := hid (HB6.out.trans (hst6.mono HB6.out.size))
  clear hn6 hone6 hst6 HB6
  generalize (w6.alloc (.cells #[.int .i64 0, .int .i64 0, .int .i64 0, .int .u64 0, .int .u64 0, .int .u64 0, .int .u64 0, .bool false, .slice none 0 0, .slice none 0 0, .int .i64 0, .int .i64 0, .string { data := #[] }] 32)).setRow w6.heap.size (m6.cells (.slice ae6 m6.entries.length ce6) (.slice ac6 m6.conf.length cc6)) = v6 at *
  generalize w6.heap.size = g6 at *
  have hap : str fb ++ str bh = str (fb ++ bh) := str_append _ _
  have HL7 := hid (show (fb ++ bh).length ≤ 1152921504606846976 by rw [List.length_append]; omega)
  go_wp2_with fail
  refine Calls.mono (readMs_any (fb ++ bh) HL7.out _) ?_
  rintro e w7 ⟨ve7, vc7, rfl, he7, hc7, hb7⟩
  have HB7 := hid (HS6.out.trans (hb7.mono HS6.out.size))
  clear hb7 HS6 HL7 hap
  generalize rdMs (fb ++ bh) = q7 at *
  obtain ⟨m7, e7⟩ := q7
  simp only at HR he7 hc7 ⊢
  have HE7 : Hid (e7 = if bh = [] then 0 else 9) := by
    have := congrArg Prod.snd HR.out
    simp only at this
    rw [this]
    show (if bh = [] then (m, 0) else (Ms.zero, 9)).2 = _
    split <;> rfl
  clear HR
  obtain ⟨ae7, ce7, ee7⟩ := he7.form
  obtain ⟨ac7, cc7, ec7⟩ := hc7.form
  subst ee7 ec7
  clear he7 hc7
  have hn7 := heap_alloc_new w7 (.cells msgZ 32)
  have hone7 := m7.cells_one ae7 ac7 m7.entries.length m7.conf.length ce7 cc7
  go_upto_region 12 with (refine wpList_store_row rfl 32 _ _ rfl w7.heap.size (m7.cells (.slice ae7 m7.entries.length ce7) (.slice ac7 m7.conf.length cc7)) (by rfl) (by rfl) 32 msgZ hn7 sizeMsg rfl hone7 ?_)
  have hst7 := stored_below w7 (.cells #[.int .i64 0, .int .i64 0, .int .i64 0, .int .u64 0, .int .u64 0, .int .u64 0, .int .u64 0, .bool false, .slice none 0 0, .slice none 0 0, .int .i64 0, .int .i64 0, .string { data := #[] }] 32) (m7.cells (.slice ae7 m7.entries.length ce7) (.slice ac7 m7.conf.length cc7))
  have HS7 := hid (HB7.out.trans (hst7.mono HB7.out.size))
  clear hn7 hone7 hst7 HB7
  generalize (w7.alloc (.cells #[.int .i64 0, .int .i64 0, .int .i64 0, .int .u64 0, .int .u64 0, .int .u64 0, .int .u64 0, .bool false, .slice none 0 0, .slice none 0 0, .int .i64 0, .int .i64 0, .string { data := #[] }] 32)).setRow w7.heap.size (m7.cells (.slice ae7 m7.entries.length ce7) (.slice ac7 m7.conf.length cc7)) = v7 at *
  generalize w7.heap.size = g7 at *
  by_cases hy : (y.toNat : Int) = 0
  · obtain rfl : e5 = 0 := HT1.out.2 hy
    have hy1 : ((y.toNat : Int) == 0) = true := by simpa using hy
    by_cases hb : bh = []
    · obtain rfl : e7 = 0 := by rw [HE7.out, if_pos hb]
      subst hb
      have hem2 : (str []).toList = [] := by rw [ByteArray.toList_eq]; rfl
      have hem : ((str []).toList.isEmpty) = true := by rw [hem2]; rfl
      go_wp2_with fail
      go_ret
      exact ⟨rfl, HS7.out⟩
    · obtain rfl : e7 = 9 := by rw [HE7.out, if_neg hb]
      have hem2 : ((str bh).toList = []) = False := by rw [ByteArray.toList_eq]; simpa [str] using hb
      have hem : ((str bh).toList.isEmpty) = false := by rw [List.isEmpty_eq_false_iff]; exact fun h => by rw [hem2] at h; exact h
      have hem3 : ((str bh).toList == []) = false := by rw [beq_eq_false_iff_ne]; exact fun h => by rw [hem2] at h; exact h
      go_wp2_with fail
      go_ret
      exact ⟨rfl, HS7.out⟩
  · have he5 : ¬ e5 = 0 := fun h => hy (HT1.out.1 h)
    have he6 : ((e5 : Int) == 0) = false := by simpa using he5
    have hy1 : ((y.toNat : Int) == 0) = false := by simpa using hy
    by_cases hb : bh = []
    · obtain rfl : e7 = 0 := by rw [HE7.out, if_pos hb]
      subst hb
      have hem2 : (str []).toList = [] := by rw [ByteArray.toList_eq]; rfl
      have hem : ((str []).toList.isEmpty) = true := by rw [hem2]; rfl
      go_wp2_with fail
      go_ret
      exact ⟨rfl, HS7.out⟩
    · obtain rfl : e7 = 9 := by rw [HE7.out, if_neg hb]
      have hem2 : ((str bh).toList = []) = False := by rw [ByteArray.toList_eq]; simpa [str] using hb
      have hem : ((str bh).toList.isEmpty) = false := by rw [List.isEmpty_eq_false_iff]; exact fun h => by rw [hem2] at h; exact h
      have hem3 : ((str bh).toList == []) = false := by rw [beq_eq_false_iff_ne]; exact fun h => by rw [hem2] at h; exact h
      go_wp2_with fail
      go_ret
      exact ⟨rfl, HS7.out⟩
theorem wireSpoilt_walk (m : Ms) (ve vc : Value) (kk : Int) (wk : (Lit.int .i64 kk).wf = true) (b : Int) (wb : (Lit.int .u8 b).wf = true) (s : ByteArray) (hs : s.size ≤ maxLen) (hl : s.size ≤ 140737488351232) (w : World) (hm : MsArg m ve vc w) :
    Calls Try.prog 7 #[.agg (m.cells ve vc), .int .i64 kk, .int .u8 b, .string s] w fun e w' => e = .returned (.bool true) ∧ Below w.heap.size w w' := by
  obtain ⟨g1, g2, g3, _, _, g6, g7⟩ := hm
  have hb : 0 ≤ b ∧ b ≤ 255 := by simpa [Lit.wf, IntKind.min, IntKind.max, IntKind.signed, IntKind.bits] using wb
  obtain ⟨y, rfl⟩ := byte_of' b hb.1 hb.2
  rw [← str_of s]
  exact wireSpoilt_at m ve vc kk wk y _ (by rw [len_of]; exact hl) w g1 g2 g6 g7 g3
end Go.Proofs.Ytgkapgfpalbkjaa
