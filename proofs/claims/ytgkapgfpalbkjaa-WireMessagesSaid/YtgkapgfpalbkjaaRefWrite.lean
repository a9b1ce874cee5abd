/-
  The walk of the reference's Request.
-/
import Derived.Test.YtgkapgfpalbkjaaRefMay
namespace Go.Proofs.Ytgkapgfpalbkjaa
open Go.RowKit
set_option linter.unusedVariables false
set_option linter.unusedSimpArgs false
set_option maxRecDepth 100000 in
set_option maxHeartbeats 4000000 in
theorem refWriteRq_no (x : Rq) (vu vf : Value) (w : World) (D : List Nat) (hu : Cells D w vu x.uids.length (rgVals x.uids)) (hf : Cells D w vf x.flags.length (strVals x.flags)) (hul : x.uids.length ≤ 1152921504606846976) (hfl : x.flags.length ≤ 1152921504606846976) (hm : ∀ f ∈ x.flags, f.length ≤ maxLen)
    (hb : x.box.length ≤ maxLen) (hd : x.dest.length ≤ maxLen) (hh : x.hash.length ≤ maxLen) (hno : mayRq x = false) :
    Calls Try.prog 11 #[.agg (x.cells vu vf)] w fun e w' => e = .returned (.tuple #[.string (str []), .bool false]) ∧ Below w.heap.size w w' := by
  have HB0 : Hid (Below w.heap.size w (w.alloc (.cells (x.cells vu vf) 26))) := (Below.refl _ _).alloc (Nat.le_refl _) _
  have HK := hid (heap_alloc_new w (.cells (x.cells vu vf) 26))
  have H := hid (refMay_any x vu vf (w.alloc (.cells (x.cells vu vf) 26)) D (hu.below HB0.out) (hf.below HB0.out) hul hfl hm hb hd hh)
  obtain ⟨au, cu, eu⟩ := hu.form
  obtain ⟨af, cf, ef⟩ := hf.form
  subst eu ef
  rw [hno] at H
  clear hu hf hm hno
  go_enter Try.func11, Try.ntmps11
  go_wp2_with (refine wpList_load_row rfl 26 _ rfl w.heap.size (by rfl) 26 (x.cells _ _) (0, 0) _ HK.out Try.underlying26 rfl (by kernel_rfl) ?_)
  refine Calls.mono H.out ?_
  rintro e w1 ⟨rfl, hb1⟩
  go_wp2_with fail
  go_ret2
  exact ⟨rfl, HB0.out.trans (hb1.mono HB0.out.size)⟩
/-- the box of the argument, and the world below -/
def ZB (B k : Nat) (w : World) (o : Obj) (W : World) : Prop := W.heap[k]? = some o ∧ Below B w W ∧ B ≤ W.heap.size
theorem ZB.below {B k : Nat} {w W W' : World} {o : Obj} (h : ZB B k w o W) (hb : Below W.heap.size W W') : ZB B k w o W' := ⟨blk_below h.1 hb, h.2.1.trans (hb.mono h.2.2), Nat.le_trans h.2.2 hb.size⟩
set_option maxRecDepth 100000 in
set_option maxHeartbeats 8000000 in
theorem refWriteRq_at (op session number node life tried validity how since size sweeps : Nat) (box dest hash : Bytes) (uids : List (Nat × Nat)) (flags : List Bytes) (has : Bool) (x : Rq) (hx : Hid (x = ⟨op, session, number, node, life, tried, box, dest, validity, uids, flags, how, has, since, hash, size, sweeps⟩))
    (vu vf : Value) (w : World) (D : List Nat) (hu : Cells D w vu uids.length (rgVals uids)) (hf : Cells D w vf flags.length (strVals flags)) (hyes : mayRq x = true) (hfit : x.fit) :
    Calls Try.prog 11 #[.agg (x.cells vu vf)] w fun e w' => e = .returned (.tuple #[.string (str x.bytes), .bool true]) ∧ Below w.heap.size w w' := by
  have hp := mayRq_parts hyes
  have hft := hfit
  unfold Rq.fit at hft
  have hbig : ∀ n : Nat, n ≤ 64 → n ≤ 1152921504606846976 := fun n h => by omega
  have HB0 : Hid (Below w.heap.size w (w.alloc (.cells (x.cells vu vf) 26))) := (Below.refl _ _).alloc (Nat.le_refl _) _
  have HK := hid (heap_alloc_new w (.cells (x.cells vu vf) 26))
  have hu' : Cells D w vu x.uids.length (rgVals x.uids) := by rw [hx.out]; exact hu
  have hf' : Cells D w vf x.flags.length (strVals x.flags) := by rw [hx.out]; exact hf
  have H := hid (refMay_any x vu vf (w.alloc (.cells (x.cells vu vf) 26)) D (hu'.below HB0.out) (hf'.below HB0.out) (hbig _ hp.2.2.2.2.1) (by omega) (fun f h => by have := hp.2.2.2.2.2.2.2.1 f h; unfold maxLen; omega) (by unfold maxLen; omega) (by unfold maxLen; omega) (by unfold maxLen; omega))
  rw [hyes] at H
  clear hu' hf' hbig
  rw [hx.out] at hp hft
  simp only at hp hft
  obtain ⟨⟨_, p1⟩, ⟨_, p2⟩, p3, p4, p5, p6, p7, p8, ⟨_, p9⟩, p10⟩ := hp
  obtain ⟨f1, f2, f3, f4, f5, f6, f7, f8, f9⟩ := hft
  obtain ⟨au, cu, eu⟩ := hu.form
  obtain ⟨af, cf, ef⟩ := hf.form
  subst eu ef
  have HU := hid hu
  have HF := hid hf
  have P6 := hid p6
  have P8 := hid p8
  have F9 := hid f9
  clear hu hf hyes hfit p6 p8 f9
  go_enter Try.func11, Try.ntmps11
  go_wp2_with (refine wpList_load_row rfl 26 _ rfl w.heap.size (by rfl) 26 (x.cells _ _) (0, 0) _ HK.out Try.underlying26 rfl (by kernel_rfl) ?_)
  refine Calls.mono H.out ?_
  rintro e w1 ⟨rfl, hb1⟩
  have HB1 : Hid (Below w.heap.size w w1) := HB0.out.trans (hb1.mono HB0.out.size)
  have HK1 : Hid (w1.heap[w.heap.size]? = some (.cells (x.cells (.slice au uids.length cu) (.slice af flags.length cf)) 26)) := blk_below HK.out hb1
  clear hb1 HK H HB0
  generalize hke : w.heap.size = k at HK1 ⊢
  clear hke
  rw [hx.out] at HK1
  have hZ0 : ZB w.heap.size k w (.cells #[.int .i64 (op : Int), .int .u64 session, .int .u64 number, .int .i64 (node : Int), .int .u64 life, .int .u64 tried, .string (str box), .string (str dest), .int .u64 validity, .slice au uids.length cu, .slice af flags.length cf, .int .i64 (how : Int), .bool has, .int .u64 since, .string (str hash), .int .u64 size, .int .u64 sweeps] 26) w1.drew := ⟨HK1.out, HB1.out.drew, HB1.out.size⟩
  clear HK1 HB1
  have hw1 : IntKind.u64.wrap (op : Int) = (op : Int) := by rw [IntKind.wrap_u64]; omega
  have hw2 : IntKind.u64.wrap (node : Int) = (node : Int) := by rw [IntKind.wrap_u64]; omega
  have hw3 : IntKind.u64.wrap (how : Int) = (how : Int) := by rw [IntKind.wrap_u64]; omega
  have hw4 : IntKind.u64.wrap (uids.length : Int) = (uids.length : Int) := by rw [IntKind.wrap_u64]; omega
  have hw5 : IntKind.u64.wrap (flags.length : Int) = (flags.length : Int) := by rw [IntKind.wrap_u64]; omega
  have t0 : op < top64 := by unfold top64; omega
  have t1 : node < top64 := by unfold top64; omega
  have t2 : uids.length < top64 := by unfold top64; omega
  have l4 := text_len box
  have l5 := text_len dest
  have l6 := text_len hash
  have ln0 : (num op).length ≤ 10 := num_len _
  have ln1 : (num session).length ≤ 10 := num_len _
  have ln2 : (num number).length ≤ 10 := num_len _
  have ln3 : (num node).length ≤ 10 := num_len _
  have ln4 : (num life).length ≤ 10 := num_len _
  have ln5 : (num tried).length ≤ 10 := num_len _
  have ln8 : (num validity).length ≤ 10 := num_len _
  have ln9 : (num uids.length).length ≤ 10 := num_len _
  have sz0 : (str (num op)).size = (num op).length := str_size _
  have sz1 : (str (num session)).size = (num session).length := str_size _
  have sz2 : (str (num number)).size = (num number).length := str_size _
  have sz3 : (str (num node)).size = (num node).length := str_size _
  have sz4 : (str (num life)).size = (num life).length := str_size _
  have sz5 : (str (num tried)).size = (num tried).length := str_size _
  have sz6 : (str (text box)).size = (text box).length := str_size _
  have sz7 : (str (text dest)).size = (text dest).length := str_size _
  have sz8 : (str (num validity)).size = (num validity).length := str_size _
  have sz9 : (str (num uids.length)).size = (num uids.length).length := str_size _
  generalize Ae0 : num op ++ num session = A0
  have As0 : str (num op) ++ str (num session) = str A0 := by rw [str_append, Ae0]
  have Ab0 : A0.length ≤ 2100 := by rw [← Ae0, List.length_append]; omega
  have An0 : ¬ (9223372036854775807 < (num op).length + (num session).length) := by omega
  have Az0 : (str A0).size = A0.length := str_size _
  generalize Ae1 : A0 ++ num number = A1
  have As1 : str (A0) ++ str (num number) = str A1 := by rw [str_append, Ae1]
  have Ab1 : A1.length ≤ 4100 := by rw [← Ae1, List.length_append]; omega
  have An1 : ¬ (9223372036854775807 < (A0).length + (num number).length) := by omega
  have Az1 : (str A1).size = A1.length := str_size _
  generalize Ae2 : A1 ++ num node = A2
  have As2 : str (A1) ++ str (num node) = str A2 := by rw [str_append, Ae2]
  have Ab2 : A2.length ≤ 6100 := by rw [← Ae2, List.length_append]; omega
  have An2 : ¬ (9223372036854775807 < (A1).length + (num node).length) := by omega
  have Az2 : (str A2).size = A2.length := str_size _
  generalize Ae3 : A2 ++ num life = A3
  have As3 : str (A2) ++ str (num life) = str A3 := by rw [str_append, Ae3]
  have Ab3 : A3.length ≤ 8100 := by rw [← Ae3, List.length_append]; omega
  have An3 : ¬ (9223372036854775807 < (A2).length + (num life).length) := by omega
  have Az3 : (str A3).size = A3.length := str_size _
  generalize Ae4 : A3 ++ num tried = A4
  have As4 : str (A3) ++ str (num tried) = str A4 := by rw [str_append, Ae4]
  have Ab4 : A4.length ≤ 10100 := by rw [← Ae4, List.length_append]; omega
  have An4 : ¬ (9223372036854775807 < (A3).length + (num tried).length) := by omega
  have Az4 : (str A4).size = A4.length := str_size _
  generalize Ae5 : A4 ++ text box = A5
  have As5 : str (A4) ++ str (text box) = str A5 := by rw [str_append, Ae5]
  have Ab5 : A5.length ≤ 12100 := by rw [← Ae5, List.length_append]; omega
  have An5 : ¬ (9223372036854775807 < (A4).length + (text box).length) := by omega
  have Az5 : (str A5).size = A5.length := str_size _
  generalize Ae6 : A5 ++ text dest = A6
  have As6 : str (A5) ++ str (text dest) = str A6 := by rw [str_append, Ae6]
  have Ab6 : A6.length ≤ 14100 := by rw [← Ae6, List.length_append]; omega
  have An6 : ¬ (9223372036854775807 < (A5).length + (text dest).length) := by omega
  have Az6 : (str A6).size = A6.length := str_size _
  generalize Ae7 : A6 ++ num validity = A7
  have As7 : str (A6) ++ str (num validity) = str A7 := by rw [str_append, Ae7]
  have Ab7 : A7.length ≤ 16100 := by rw [← Ae7, List.length_append]; omega
  have An7 : ¬ (9223372036854775807 < (A6).length + (num validity).length) := by omega
  have Az7 : (str A7).size = A7.length := str_size _
  generalize Ae8 : A7 ++ num uids.length = A8
  have As8 : str (A7) ++ str (num uids.length) = str A8 := by rw [str_append, Ae8]
  have Ab8 : A8.length ≤ 18100 := by rw [← Ae8, List.length_append]; omega
  have An8 : ¬ (9223372036854775807 < (A7).length + (num uids.length).length) := by omega
  have Az8 : (str A8).size = A8.length := str_size _
  have HCO3 : Hid (∀ W : World, ZB w.heap.size k w (.cells #[.int .i64 (op : Int), .int .u64 session, .int .u64 number, .int .i64 (node : Int), .int .u64 life, .int .u64 tried, .string (str box), .string (str dest), .int .u64 validity, .slice au uids.length cu, .slice af flags.length cf, .int .i64 (how : Int), .bool has, .int .u64 since, .string (str hash), .int .u64 size, .int .u64 sweeps] 26) W → W.cell? ⟨k, 0, none⟩ = some (.int .i64 (op : Int)) ∧ W.cell? ⟨k, 1, none⟩ = some (.int .u64 session) ∧ W.cell? ⟨k, 2, none⟩ = some (.int .u64 number) ∧ W.cell? ⟨k, 3, none⟩ = some (.int .i64 (node : Int)) ∧ W.cell? ⟨k, 4, none⟩ = some (.int .u64 life) ∧ W.cell? ⟨k, 5, none⟩ = some (.int .u64 tried) ∧ W.cell? ⟨k, 6, none⟩ = some (.string (str box)) ∧ W.cell? ⟨k, 7, none⟩ = some (.string (str dest)) ∧ W.cell? ⟨k, 8, none⟩ = some (.int .u64 validity) ∧ W.cell? ⟨k, 9, none⟩ = some (.slice au uids.length cu)) := fun W h0 => by have h := h0.1; exact ⟨cell_in h 0 _ rfl, cell_in h 1 _ rfl, cell_in h 2 _ rfl, cell_in h 3 _ rfl, cell_in h 4 _ rfl, cell_in h 5 _ rfl, cell_in h 6 _ rfl, cell_in h 7 _ rfl, cell_in h 8 _ rfl, cell_in h 9 _ rfl⟩
  go_wp2_with fail
  go_region_held3 (fun W => W.cell? ⟨k, 0, none⟩ = some (.int .i64 (op : Int)) ∧ W.cell? ⟨k, 1, none⟩ = some (.int .u64 session) ∧ W.cell? ⟨k, 2, none⟩ = some (.int .u64 number) ∧ W.cell? ⟨k, 3, none⟩ = some (.int .i64 (node : Int)) ∧ W.cell? ⟨k, 4, none⟩ = some (.int .u64 life) ∧ W.cell? ⟨k, 5, none⟩ = some (.int .u64 tried) ∧ W.cell? ⟨k, 6, none⟩ = some (.string (str box)) ∧ W.cell? ⟨k, 7, none⟩ = some (.string (str dest)) ∧ W.cell? ⟨k, 8, none⟩ = some (.int .u64 validity) ∧ W.cell? ⟨k, 9, none⟩ = some (.slice au uids.length cu)) (first | exact HCO3.out _ (by assumption))
    (first
    | (go_at_call 30; refine Calls.mono (wnum_any _ (by first | assumption | omega) _) ?_; rintro e w' ⟨rfl, hb'⟩; have hZ' := ZB.below (by assumption) hb'; clear hb')
    | (go_at_call 31; refine Calls.mono (wtext_any _ (by omega) _) ?_; rintro e w' ⟨rfl, hb'⟩; have hZ' := ZB.below (by assumption) hb'; clear hb'))
  have hZ3 := hZ'
  have HA := hid (show A8 = num op ++ num session ++ num number ++ num node ++ num life ++ num tried ++ text box ++ text dest ++ num validity ++ num uids.length by rw [← Ae8, ← Ae7, ← Ae6, ← Ae5, ← Ae4, ← Ae3, ← Ae2, ← Ae1, ← Ae0])
  clear Ae0 As0 An0 Az0 Ae1 As1 An1 Az1 Ae2 As2 An2 Az2 Ae3 As3 An3 Az3 Ae4 As4 An4 Az4 Ae5 As5 An5 Az5 Ae6 As6 An6 Az6 Ae7 As7 An7 Az7 Ae8 As8 An8 Az8 sz0 sz1 sz2 sz3 sz4 sz5 sz6 sz7 sz8 sz9 HCO3
  have HCU : Hid (∀ W : World, ZB w.heap.size k w (.cells #[.int .i64 (op : Int), .int .u64 session, .int .u64 number, .int .i64 (node : Int), .int .u64 life, .int .u64 tried, .string (str box), .string (str dest), .int .u64 validity, .slice au uids.length cu, .slice af flags.length cf, .int .i64 (how : Int), .bool has, .int .u64 since, .string (str hash), .int .u64 size, .int .u64 sweeps] 26) W → W.cell? ⟨k, 9, none⟩ = some (.slice au uids.length cu)) := fun W h0 => cell_in h0.1 9 _ rfl
  have HCF : Hid (∀ W : World, ZB w.heap.size k w (.cells #[.int .i64 (op : Int), .int .u64 session, .int .u64 number, .int .i64 (node : Int), .int .u64 life, .int .u64 tried, .string (str box), .string (str dest), .int .u64 validity, .slice au uids.length cu, .slice af flags.length cf, .int .i64 (how : Int), .bool has, .int .u64 since, .string (str hash), .int .u64 size, .int .u64 sweeps] 26) W → W.cell? ⟨k, 10, none⟩ = some (.slice af flags.length cf)) := fun W h0 => cell_in h0.1 10 _ rfl
  obtain ⟨_, hcu, hcellu⟩ := HU.out.at
  obtain ⟨_, hcf, hcellf⟩ := HF.out.at
  have HXU := hid hcellu
  have HXF := hid hcellf
  clear hcellu hcellf HU HF
  have c9 := HCU.out _ hZ3
  go_wp2_with fail
  go_loopw [4, 5] (fun vs i wr => ∃ j : Nat, i = .int .i64 j ∧ j ≤ uids.length ∧ vs = .string (str (A8 ++ flatOf rgBytes uids j)) ∧ ZB w.heap.size k w (.cells #[.int .i64 (op : Int), .int .u64 session, .int .u64 number, .int .i64 (node : Int), .int .u64 life, .int .u64 tried, .string (str box), .string (str dest), .int .u64 validity, .slice au uids.length cu, .slice af flags.length cf, .int .i64 (how : Int), .bool has, .int .u64 since, .string (str hash), .int .u64 size, .int .u64 sweeps] 26) wr) (fun _ i _ => uids.length - (intOf i).toNat)
  case atStart => exact ⟨0, rfl, Nat.zero_le _, by simp [flatOf], hZ3⟩
  case round =>
    obtain ⟨j, rfl, hj, rfl, hZ⟩ := hrel
    clear hZ3 c9
    have c9 := HCU.out _ hZ
    by_cases hlt : j < uids.length
    · obtain ⟨b, off, rfl, hcell⟩ := HXU.out (by rw [rgVals_len]; omega)
      have HS := hid (flatOf_succ rgBytes uids j hlt)
      have hr := F9.out _ (List.getElem_mem hlt)
      have HC7 : Hid (∀ W : World, ZB w.heap.size k w (.cells #[.int .i64 (op : Int), .int .u64 session, .int .u64 number, .int .i64 (node : Int), .int .u64 life, .int .u64 tried, .string (str box), .string (str dest), .int .u64 validity, .slice (some ⟨b, off, none⟩) uids.length cu, .slice af flags.length cf, .int .i64 (how : Int), .bool has, .int .u64 since, .string (str hash), .int .u64 size, .int .u64 sweeps] 26) W → W.cell? ⟨k, 9, none⟩ = some (.slice (some ⟨b, off, none⟩) uids.length cu) ∧ W.cell? ⟨b, off + j * 2, none⟩ = some (.int .u64 (uids[j].1 : Nat)) ∧ W.cell? ⟨b, off + j * 2 + 1, none⟩ = some (.int .u64 (uids[j].2 : Nat))) := fun W h0 =>
        ⟨cell_in h0.1 9 _ rfl, hcell W h0.2.1 _ _ (rgVals_at uids j hlt).1, by have h2 := hcell W h0.2.1 _ _ (rgVals_at uids j hlt).2; rw [show off + (j * 2 + 1) = off + j * 2 + 1 by omega] at h2; exact h2⟩
      have hlz := flatOf_le rgBytes 1000100 uids (fun x hx => rgBytes_le x (F9.out x hx)) j
      clear hcell
      generalize uids[j] = r at *
      obtain ⟨r1, r2⟩ := r
      simp only at HC7 hr
      obtain ⟨hr1, hr2⟩ := hr
      have ln20 := num_len r1
      have ln21 := num_len r2
      have sz20 : (str (num r1)).size = (num r1).length := str_size _
      have sz21 : (str (num r2)).size = (num r2).length := str_size _
      have hzl : (A8 ++ flatOf rgBytes uids j).length ≤ 65000000 := by rw [List.length_append]; omega
      generalize hZZ : A8 ++ flatOf rgBytes uids j = Z at *
      have sz22 : (str Z).size = Z.length := str_size _
      generalize Be0 : Z ++ num r1 = B0
      have Bs0 : str (Z) ++ str (num r1) = str B0 := by rw [str_append, Be0]
      have Bb0 : B0.length ≤ 65002000 := by rw [← Be0, List.length_append]; omega
      have Bn0 : ¬ (9223372036854775807 < (Z).length + (num r1).length) := by omega
      have Bz0 : (str B0).size = B0.length := str_size _
      generalize Be1 : B0 ++ num r2 = B1
      have Bs1 : str (B0) ++ str (num r2) = str B1 := by rw [str_append, Be1]
      have Bb1 : B1.length ≤ 65004000 := by rw [← Be1, List.length_append]; omega
      have Bn1 : ¬ (9223372036854775807 < (B0).length + (num r2).length) := by omega
      have Bz1 : (str B1).size = B1.length := str_size _
      have HS2 := hid (show A8 ++ flatOf rgBytes uids (j + 1) = B1 by rw [HS.out, ← Be1, ← Be0, ← hZZ]; unfold rgBytes; simp only [List.append_assoc])
      clear hZZ Be0 Be1 HS hlz
      have hZd : ZB w.heap.size k w (.cells #[.int .i64 (op : Int), .int .u64 session, .int .u64 number, .int .i64 (node : Int), .int .u64 life, .int .u64 tried, .string (str box), .string (str dest), .int .u64 validity, .slice (some ⟨b, off, none⟩) uids.length cu, .slice af flags.length cf, .int .i64 (how : Int), .bool has, .int .u64 since, .string (str hash), .int .u64 size, .int .u64 sweeps] 26) wr.drew := ⟨hZ.1, hZ.2.1.drew, hZ.2.2⟩
      go_wp2_with fail
      clear hZ c9
      go_region_held3 (fun W => W.cell? ⟨k, 9, none⟩ = some (.slice (some ⟨b, off, none⟩) uids.length cu) ∧ W.cell? ⟨b, off + j * 2, none⟩ = some (.int .u64 (r1 : Nat)) ∧ W.cell? ⟨b, off + j * 2 + 1, none⟩ = some (.int .u64 (r2 : Nat))) (first | exact HC7.out _ (by assumption))
        ((go_at_call 30; refine Calls.mono (wnum_any _ (by first | assumption | omega) _) ?_; rintro e w' ⟨rfl, hb'⟩; have hZ' := ZB.below (by assumption) hb'; clear hb'))
      have hZE := hZ'
      go_wp2_with fail
      go_roundw
      case rel => exact ⟨j + 1, by go_num, by omega, by rw [HS2.out], hZE⟩
      case measure => simp [intOf]; omega
    · obtain rfl : j = uids.length := by omega
      have HT := hid (flatOf_all rgBytes uids uids.length (Nat.le_refl _))
      have hlz := flatOf_le rgBytes 1000100 uids (fun x hx => rgBytes_le x (F9.out x hx)) uids.length
      have hzl : (A8 ++ flatOf rgBytes uids uids.length).length ≤ 65000000 := by rw [List.length_append]; omega
      generalize hC0 : A8 ++ flatOf rgBytes uids uids.length = C0 at *
      have HC0 := hid (show C0 = A8 ++ (uids.map rgBytes).flatten by rw [← hC0, HT.out])
      clear hC0 HT hlz
      have t3 : flags.length < top64 := by unfold top64; omega
      have ln30 := num_len flags.length
      have sz30 : (str (num flags.length)).size = (num flags.length).length := str_size _
      have sz31 : (str C0).size = C0.length := str_size _
      generalize De0 : C0 ++ num flags.length = D0
      have Ds0 : str (C0) ++ str (num flags.length) = str D0 := by rw [str_append, De0]
      have Db0 : D0.length ≤ 65002000 := by rw [← De0, List.length_append]; omega
      have Dn0 : ¬ (9223372036854775807 < (C0).length + (num flags.length).length) := by omega
      have Dz0 : (str D0).size = D0.length := str_size _
      have HC1 := hid (show D0 = A8 ++ (uids.map rgBytes).flatten ++ num flags.length by rw [← De0, HC0.out])
      clear De0 HC0
      have c10 := HCF.out _ hZ
      go_wp2_with fail
      refine Calls.mono (wnum_any _ t3 _) ?_
      rintro e w5 ⟨rfl, hb5⟩
      have hZ5 := hZ.below hb5
      clear hb5 c10 c9 hZ
      have c10 := HCF.out _ hZ5
      go_wp2_with fail
      clear Ds0 Dn0
      go_loopw [4, 6] (fun vs i wr => ∃ q : Nat, i = .int .i64 q ∧ q ≤ flags.length ∧ vs = .string (str (D0 ++ flatOf text flags q)) ∧ ZB w.heap.size k w (.cells #[.int .i64 (op : Int), .int .u64 session, .int .u64 number, .int .i64 (node : Int), .int .u64 life, .int .u64 tried, .string (str box), .string (str dest), .int .u64 validity, .slice au uids.length cu, .slice af flags.length cf, .int .i64 (how : Int), .bool has, .int .u64 since, .string (str hash), .int .u64 size, .int .u64 sweeps] 26) wr) (fun _ i _ => flags.length - (intOf i).toNat)
      case atStart => exact ⟨0, rfl, Nat.zero_le _, by simp [flatOf], hZ5⟩
      case round =>
        obtain ⟨q, rfl, hq, rfl, hZ⟩ := hrel
        clear hZ5 c10
        have c10 := HCF.out _ hZ
        have hlz := flatOf_le text 1000100 flags (fun x hx => text_le x (by have := P8.out x hx; unfold okTx; omega)) q
        have hzl2 : (D0 ++ flatOf text flags q).length ≤ 85000000 := by rw [List.length_append]; omega
        by_cases hlt2 : q < flags.length
        · obtain ⟨b, off, rfl, hcell⟩ := HXF.out (by rw [strVals_len]; omega)
          have hx2 := hcell wr hZ.2.1 _ _ (strVals_at flags q hlt2)
          have HS := hid (flatOf_succ text flags q hlt2)
          have hf8 := P8.out _ (List.getElem_mem hlt2)
          clear hcell
          generalize flags[q] = f at *
          have ln40 := text_len f
          have sz40 : (str (text f)).size = (text f).length := str_size _
          have sz42 : (str f).size = f.length := str_size _
          generalize hZZ : D0 ++ flatOf text flags q = Z at *
          have sz41 : (str Z).size = Z.length := str_size _
          generalize Ee0 : Z ++ text f = E0
          have Es0 : str (Z) ++ str (text f) = str E0 := by rw [str_append, Ee0]
          have Eb0 : E0.length ≤ 85002000 := by rw [← Ee0, List.length_append]; omega
          have En0 : ¬ (9223372036854775807 < (Z).length + (text f).length) := by omega
          have Ez0 : (str E0).size = E0.length := str_size _
          have HS2 := hid (show D0 ++ flatOf text flags (q + 1) = E0 by rw [HS.out, ← Ee0, ← hZZ, List.append_assoc])
          clear hZZ Ee0 HS hlz
          go_wp2_with fail
          refine Calls.mono (wtext_any f (by omega) _) ?_
          rintro e w6 ⟨rfl, hb6⟩
          have hZ6 := hZ.below hb6
          clear hb6 c10 hZ
          go_wp2_with fail
          go_roundw
          case rel => exact ⟨q + 1, by go_num, by omega, by rw [HS2.out], hZ6⟩
          case measure => simp [intOf]; omega
        · obtain rfl : q = flags.length := by omega
          have HT := hid (flatOf_all text flags flags.length (Nat.le_refl _))
          generalize hC0 : D0 ++ flatOf text flags flags.length = G at *
          have HG := hid (show G = A8 ++ (uids.map rgBytes).flatten ++ num flags.length ++ (flags.map text).flatten by rw [← hC0, HT.out, HC1.out])
          clear hC0 HT hlz
          have t5 : how < top64 := by unfold top64; omega
          have sz50 : (str G).size = G.length := str_size _
          have ln50 : (num how).length ≤ 10 := num_len _
          have ln51 : (num (bitN has)).length ≤ 10 := num_len _
          have ln52 : (num since).length ≤ 10 := num_len _
          have ln54 : (num size).length ≤ 10 := num_len _
          have ln55 : (num sweeps).length ≤ 10 := num_len _
          have sz60 : (str (num how)).size = (num how).length := str_size _
          have sz61 : (str (num (bitN has))).size = (num (bitN has)).length := str_size _
          have sz62 : (str (num since)).size = (num since).length := str_size _
          have sz63 : (str (text hash)).size = (text hash).length := str_size _
          have sz64 : (str (num size)).size = (num size).length := str_size _
          have sz65 : (str (num sweeps)).size = (num sweeps).length := str_size _
          generalize Fe0 : G ++ num how = F0
          have Fs0 : str (G) ++ str (num how) = str F0 := by rw [str_append, Fe0]
          have Fb0 : F0.length ≤ 85002000 := by rw [← Fe0, List.length_append]; omega
          have Fn0 : ¬ (9223372036854775807 < (G).length + (num how).length) := by omega
          have Fz0 : (str F0).size = F0.length := str_size _
          generalize Fe1 : F0 ++ num (bitN has) = F1
          have Fs1 : str (F0) ++ str (num (bitN has)) = str F1 := by rw [str_append, Fe1]
          have Fb1 : F1.length ≤ 85004000 := by rw [← Fe1, List.length_append]; omega
          have Fn1 : ¬ (9223372036854775807 < (F0).length + (num (bitN has)).length) := by omega
          have Fz1 : (str F1).size = F1.length := str_size _
          generalize Fe2 : F1 ++ num since = F2
          have Fs2 : str (F1) ++ str (num since) = str F2 := by rw [str_append, Fe2]
          have Fb2 : F2.length ≤ 85006000 := by rw [← Fe2, List.length_append]; omega
          have Fn2 : ¬ (9223372036854775807 < (F1).length + (num since).length) := by omega
          have Fz2 : (str F2).size = F2.length := str_size _
          generalize Fe3 : F2 ++ text hash = F3
          have Fs3 : str (F2) ++ str (text hash) = str F3 := by rw [str_append, Fe3]
          have Fb3 : F3.length ≤ 85008000 := by rw [← Fe3, List.length_append]; omega
          have Fn3 : ¬ (9223372036854775807 < (F2).length + (text hash).length) := by omega
          have Fz3 : (str F3).size = F3.length := str_size _
          generalize Fe4 : F3 ++ num size = F4
          have Fs4 : str (F3) ++ str (num size) = str F4 := by rw [str_append, Fe4]
          have Fb4 : F4.length ≤ 85010000 := by rw [← Fe4, List.length_append]; omega
          have Fn4 : ¬ (9223372036854775807 < (F3).length + (num size).length) := by omega
          have Fz4 : (str F4).size = F4.length := str_size _
          generalize Fe5 : F4 ++ num sweeps = F5
          have Fs5 : str (F4) ++ str (num sweeps) = str F5 := by rw [str_append, Fe5]
          have Fb5 : F5.length ≤ 85012000 := by rw [← Fe5, List.length_append]; omega
          have Fn5 : ¬ (9223372036854775807 < (F4).length + (num sweeps).length) := by omega
          have Fz5 : (str F5).size = F5.length := str_size _
          have HXB : Hid (x.bytes = F5) := by
            show x.bytes = F5
            rw [← Fe5, ← Fe4, ← Fe3, ← Fe2, ← Fe1, ← Fe0, HG.out, HA.out, hx.out]
            unfold Rq.bytes listB
            simp only [Int.toNat_natCast, List.map_cons, List.map_nil, List.flatten_cons, List.flatten_nil, List.append_nil, List.append_assoc]
          clear Fe0 Fe1 Fe2 Fe3 Fe4 Fe5
          have HCO13 : Hid (∀ W : World, ZB w.heap.size k w (.cells #[.int .i64 (op : Int), .int .u64 session, .int .u64 number, .int .i64 (node : Int), .int .u64 life, .int .u64 tried, .string (str box), .string (str dest), .int .u64 validity, .slice au uids.length cu, .slice af flags.length cf, .int .i64 (how : Int), .bool has, .int .u64 since, .string (str hash), .int .u64 size, .int .u64 sweeps] 26) W → W.cell? ⟨k, 11, none⟩ = some (.int .i64 (how : Int)) ∧ W.cell? ⟨k, 12, none⟩ = some (.bool has) ∧ W.cell? ⟨k, 13, none⟩ = some (.int .u64 since) ∧ W.cell? ⟨k, 14, none⟩ = some (.string (str hash)) ∧ W.cell? ⟨k, 15, none⟩ = some (.int .u64 size) ∧ W.cell? ⟨k, 16, none⟩ = some (.int .u64 sweeps)) := fun W h0 => by have h := h0.1; exact ⟨cell_in h 11 _ rfl, cell_in h 12 _ rfl, cell_in h 13 _ rfl, cell_in h 14 _ rfl, cell_in h 15 _ rfl, cell_in h 16 _ rfl⟩
          have hZd : ZB w.heap.size k w (.cells #[.int .i64 (op : Int), .int .u64 session, .int .u64 number, .int .i64 (node : Int), .int .u64 life, .int .u64 tried, .string (str box), .string (str dest), .int .u64 validity, .slice au uids.length cu, .slice af flags.length cf, .int .i64 (how : Int), .bool has, .int .u64 since, .string (str hash), .int .u64 size, .int .u64 sweeps] 26) wr.drew := ⟨hZ.1, hZ.2.1.drew, hZ.2.2⟩
          go_wp2_with fail
          clear hZ c10
          go_region_held3 (fun W => W.cell? ⟨k, 11, none⟩ = some (.int .i64 (how : Int)) ∧ W.cell? ⟨k, 12, none⟩ = some (.bool has) ∧ W.cell? ⟨k, 13, none⟩ = some (.int .u64 since) ∧ W.cell? ⟨k, 14, none⟩ = some (.string (str hash)) ∧ W.cell? ⟨k, 15, none⟩ = some (.int .u64 size) ∧ W.cell? ⟨k, 16, none⟩ = some (.int .u64 sweeps)) (first | exact HCO13.out _ (by assumption))
            (first
            | (go_at_call 30; refine Calls.mono (wnum_any _ (by first | assumption | omega) _) ?_; rintro e w' ⟨rfl, hb'⟩; have hZ' := ZB.below (by assumption) hb'; clear hb')
            | (go_at_call 32; refine Calls.mono (wyes_any _ _) ?_; rintro e w' ⟨rfl, hb'⟩; have hZ' := ZB.below (by assumption) hb'; clear hb')
            | (go_at_call 31; refine Calls.mono (wtext_any _ (by omega) _) ?_; rintro e w' ⟨rfl, hb'⟩; have hZ' := ZB.below (by assumption) hb'; clear hb'))
          have hZE := hZ'
          go_wp2_with fail
          go_ret2
          rw [HXB.out]
          exact ⟨rfl, hZE.2.1⟩
theorem refWriteRq_any (x : Rq) (vu vf : Value) (w : World) (D : List Nat) (hu : Cells D w vu x.uids.length (rgVals x.uids)) (hf : Cells D w vf x.flags.length (strVals x.flags)) (hul : x.uids.length ≤ 1152921504606846976) (hfl : x.flags.length ≤ 1152921504606846976) (hm : ∀ f ∈ x.flags, f.length ≤ maxLen)
    (hb : x.box.length ≤ maxLen) (hd : x.dest.length ≤ maxLen) (hh : x.hash.length ≤ maxLen) (hfit : x.fit) :
    Calls Try.prog 11 #[.agg (x.cells vu vf)] w fun e w' => e = .returned (.tuple #[.string (str (rqWrite x).1), .bool (mayRq x)]) ∧ Below w.heap.size w w' := by
  unfold rqWrite
  cases hy : mayRq x
  · rw [if_neg (by simp)]
    exact refWriteRq_no x vu vf w D hu hf hul hfl hm hb hd hh hy
  · rw [if_pos rfl]
    have hp := mayRq_parts hy
    obtain ⟨op, session, number, node, life, tried, box, dest, validity, uids, flags, how, has, since, hash, size, sweeps⟩ := x
    obtain ⟨n0, rfl⟩ := Int.eq_ofNat_of_zero_le hp.1.1
    obtain ⟨n3, rfl⟩ := Int.eq_ofNat_of_zero_le hp.2.1.1
    obtain ⟨n11, rfl⟩ := Int.eq_ofNat_of_zero_le hp.2.2.2.2.2.2.2.2.1.1
    exact refWriteRq_at n0 session number n3 life tried validity n11 since size sweeps box dest hash uids flags has _ (hid rfl) vu vf w D hu hf hy hfit
end Go.Proofs.Ytgkapgfpalbkjaa
