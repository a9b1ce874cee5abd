/-
  The walks of the reference's Body and Message.
-/
import Derived.Test.YtgkapgfpalbkjaaRefMayMs
import Derived.Test.YtgkapgfpalbkjaaRefWrite
import Derived.Test.YtgkapgfpalbkjaaWireChainM
namespace Go.Proofs.Ytgkapgfpalbkjaa
open Go.RowKit
set_option linter.unusedVariables false
set_option linter.unusedSimpArgs false
set_option maxRecDepth 100000 in
set_option maxHeartbeats 8000000 in
theorem refBody_at (kind src dest term index logTerm commit offset size : Nat) (ok : Bool) (entries : List En) (conf : List Int) (data : Bytes) (x : Ms) (hx : Hid (x = ⟨kind, src, dest, term, index, logTerm, commit, ok, entries, conf, offset, size, data⟩))
    (vu vf : Value) (w : World) (D : List Nat) (hu : Cells D w vu entries.length (enVals entries)) (hf : Cells D w vf conf.length (intVals conf)) (hyes : mayMs x = true) (hfit : x.fit) :
    Calls Try.prog 56 #[.agg (x.cells vu vf)] w fun e w' => e = .returned (.string (str x.body)) ∧ Below w.heap.size w w' := by
  have hp := mayMs_parts hyes
  have hft := hfit
  unfold Ms.fit at hft
  have HB0 : Hid (Below w.heap.size w (w.alloc (.cells (x.cells vu vf) 32))) := (Below.refl _ _).alloc (Nat.le_refl _) _
  have HK := hid (heap_alloc_new w (.cells (x.cells vu vf) 32))
  rw [hx.out] at hp hft
  simp only at hp hft
  obtain ⟨⟨_, p1⟩, ⟨_, p2⟩, ⟨_, p3⟩, p4, p5, p6, p7, ⟨_, p8⟩, ⟨_, p9⟩, p10⟩ := hp
  obtain ⟨f1, f2, f3, f4, f9⟩ := hft
  obtain ⟨au, cu, eu⟩ := hu.form
  obtain ⟨af, cf, ef⟩ := hf.form
  subst eu ef
  have HU := hid hu
  have HF := hid hf
  have P5 := hid p5
  have P7 := hid p7
  have F9 := hid f9
  have hoe : Hid (∀ e ∈ entries, okEn e) := fun e he => by have h1 := P5.out e he; have h2 := F9.out e he; unfold okEn; omega
  have hoc : Hid (∀ n ∈ conf, okCf n) := fun n hn => by have h1 := P7.out n hn; unfold okCf; omega
  clear hu hf hyes hfit p5 p7 f9
  have hcx : x.cells (.slice au entries.length cu) (.slice af conf.length cf) = #[.int .i64 (kind : Int), .int .i64 (src : Int), .int .i64 (dest : Int), .int .u64 term, .int .u64 index, .int .u64 logTerm, .int .u64 commit, .bool ok, .slice au entries.length cu, .slice af conf.length cf, .int .i64 (offset : Int), .int .i64 (size : Int), .string (str data)] := by rw [hx.out]; rfl
  rw [hcx] at HK HB0 ⊢
  clear hcx
  have hw1 : IntKind.u64.wrap (kind : Int) = (kind : Int) := by rw [IntKind.wrap_u64]; omega
  have hw2 : IntKind.u64.wrap (src : Int) = (src : Int) := by rw [IntKind.wrap_u64]; omega
  have hw3 : IntKind.u64.wrap (dest : Int) = (dest : Int) := by rw [IntKind.wrap_u64]; omega
  have hw4 : IntKind.u64.wrap (entries.length : Int) = (entries.length : Int) := by rw [IntKind.wrap_u64]; omega
  have hw5 : IntKind.u64.wrap (conf.length : Int) = (conf.length : Int) := by rw [IntKind.wrap_u64]; omega
  have hw6 : IntKind.u64.wrap (offset : Int) = (offset : Int) := by rw [IntKind.wrap_u64]; omega
  have hw7 : IntKind.u64.wrap (size : Int) = (size : Int) := by rw [IntKind.wrap_u64]; omega
  have t0 : kind < top64 := by unfold top64; omega
  have t1 : src < top64 := by unfold top64; omega
  have t2 : dest < top64 := by unfold top64; omega
  have t3 : entries.length < top64 := by unfold top64; omega
  have t4 : conf.length < top64 := by unfold top64; omega
  have t5 : offset < top64 := by unfold top64; omega
  have t6 : size < top64 := by unfold top64; omega
  have l6 := text_len data
  have ln0 : (num kind).length ≤ 10 := num_len _
  have ln1 : (num src).length ≤ 10 := num_len _
  have ln2 : (num dest).length ≤ 10 := num_len _
  have ln3 : (num term).length ≤ 10 := num_len _
  have ln4 : (num index).length ≤ 10 := num_len _
  have ln5 : (num logTerm).length ≤ 10 := num_len _
  have ln6 : (num commit).length ≤ 10 := num_len _
  have ln7 : (num (bitN ok)).length ≤ 10 := num_len _
  have ln8 : (num entries.length).length ≤ 10 := num_len _
  have sz0 : (str (num kind)).size = (num kind).length := str_size _
  have sz1 : (str (num src)).size = (num src).length := str_size _
  have sz2 : (str (num dest)).size = (num dest).length := str_size _
  have sz3 : (str (num term)).size = (num term).length := str_size _
  have sz4 : (str (num index)).size = (num index).length := str_size _
  have sz5 : (str (num logTerm)).size = (num logTerm).length := str_size _
  have sz6 : (str (num commit)).size = (num commit).length := str_size _
  have sz7 : (str (num (bitN ok))).size = (num (bitN ok)).length := str_size _
  have sz8 : (str (num entries.length)).size = (num entries.length).length := str_size _
  generalize Ae0 : num kind ++ num src = A0
  have As0 : str (num kind) ++ str (num src) = str A0 := by rw [str_append, Ae0]
  have Ab0 : A0.length ≤ 5100 := by rw [← Ae0, List.length_append]; omega
  have An0 : ¬ (9223372036854775807 < (num kind).length + (num src).length) := by omega
  have Az0 : (str A0).size = A0.length := str_size _
  generalize Ae1 : A0 ++ num dest = A1
  have As1 : str (A0) ++ str (num dest) = str A1 := by rw [str_append, Ae1]
  have Ab1 : A1.length ≤ 10100 := by rw [← Ae1, List.length_append]; omega
  have An1 : ¬ (9223372036854775807 < (A0).length + (num dest).length) := by omega
  have Az1 : (str A1).size = A1.length := str_size _
  generalize Ae2 : A1 ++ num term = A2
  have As2 : str (A1) ++ str (num term) = str A2 := by rw [str_append, Ae2]
  have Ab2 : A2.length ≤ 15100 := by rw [← Ae2, List.length_append]; omega
  have An2 : ¬ (9223372036854775807 < (A1).length + (num term).length) := by omega
  have Az2 : (str A2).size = A2.length := str_size _
  generalize Ae3 : A2 ++ num index = A3
  have As3 : str (A2) ++ str (num index) = str A3 := by rw [str_append, Ae3]
  have Ab3 : A3.length ≤ 20100 := by rw [← Ae3, List.length_append]; omega
  have An3 : ¬ (9223372036854775807 < (A2).length + (num index).length) := by omega
  have Az3 : (str A3).size = A3.length := str_size _
  generalize Ae4 : A3 ++ num logTerm = A4
  have As4 : str (A3) ++ str (num logTerm) = str A4 := by rw [str_append, Ae4]
  have Ab4 : A4.length ≤ 25100 := by rw [← Ae4, List.length_append]; omega
  have An4 : ¬ (9223372036854775807 < (A3).length + (num logTerm).length) := by omega
  have Az4 : (str A4).size = A4.length := str_size _
  generalize Ae5 : A4 ++ num commit = A5
  have As5 : str (A4) ++ str (num commit) = str A5 := by rw [str_append, Ae5]
  have Ab5 : A5.length ≤ 30100 := by rw [← Ae5, List.length_append]; omega
  have An5 : ¬ (9223372036854775807 < (A4).length + (num commit).length) := by omega
  have Az5 : (str A5).size = A5.length := str_size _
  generalize Ae6 : A5 ++ num (bitN ok) = A6
  have As6 : str (A5) ++ str (num (bitN ok)) = str A6 := by rw [str_append, Ae6]
  have Ab6 : A6.length ≤ 35100 := by rw [← Ae6, List.length_append]; omega
  have An6 : ¬ (9223372036854775807 < (A5).length + (num (bitN ok)).length) := by omega
  have Az6 : (str A6).size = A6.length := str_size _
  generalize Ae7 : A6 ++ num entries.length = A7
  have As7 : str (A6) ++ str (num entries.length) = str A7 := by rw [str_append, Ae7]
  have Ab7 : A7.length ≤ 40100 := by rw [← Ae7, List.length_append]; omega
  have An7 : ¬ (9223372036854775807 < (A6).length + (num entries.length).length) := by omega
  have Az7 : (str A7).size = A7.length := str_size _
  go_enter Try.func56, Try.ntmps56
  go_wp2_with fail
  generalize hke : w.heap.size = k at HK ⊢
  clear hke
  have hZ1 : ZB w.heap.size k w (.cells #[.int .i64 (kind : Int), .int .i64 (src : Int), .int .i64 (dest : Int), .int .u64 term, .int .u64 index, .int .u64 logTerm, .int .u64 commit, .bool ok, .slice au entries.length cu, .slice af conf.length cf, .int .i64 (offset : Int), .int .i64 (size : Int), .string (str data)] 32) (w.alloc (.cells #[.int .i64 (kind : Int), .int .i64 (src : Int), .int .i64 (dest : Int), .int .u64 term, .int .u64 index, .int .u64 logTerm, .int .u64 commit, .bool ok, .slice au entries.length cu, .slice af conf.length cf, .int .i64 (offset : Int), .int .i64 (size : Int), .string (str data)] 32)).drew := ⟨HK.out, HB0.out.drew, HB0.out.size⟩
  clear HK HB0
  generalize w.alloc (.cells #[.int .i64 (kind : Int), .int .i64 (src : Int), .int .i64 (dest : Int), .int .u64 term, .int .u64 index, .int .u64 logTerm, .int .u64 commit, .bool ok, .slice au entries.length cu, .slice af conf.length cf, .int .i64 (offset : Int), .int .i64 (size : Int), .string (str data)] 32) = W0 at hZ1 ⊢
  have HCO1 : Hid (∀ W : World, ZB w.heap.size k w (.cells #[.int .i64 (kind : Int), .int .i64 (src : Int), .int .i64 (dest : Int), .int .u64 term, .int .u64 index, .int .u64 logTerm, .int .u64 commit, .bool ok, .slice au entries.length cu, .slice af conf.length cf, .int .i64 (offset : Int), .int .i64 (size : Int), .string (str data)] 32) W → W.cell? ⟨k, 0, none⟩ = some (.int .i64 (kind : Int)) ∧ W.cell? ⟨k, 1, none⟩ = some (.int .i64 (src : Int)) ∧ W.cell? ⟨k, 2, none⟩ = some (.int .i64 (dest : Int)) ∧ W.cell? ⟨k, 3, none⟩ = some (.int .u64 term) ∧ W.cell? ⟨k, 4, none⟩ = some (.int .u64 index) ∧ W.cell? ⟨k, 5, none⟩ = some (.int .u64 logTerm) ∧ W.cell? ⟨k, 6, none⟩ = some (.int .u64 commit) ∧ W.cell? ⟨k, 7, none⟩ = some (.bool ok) ∧ W.cell? ⟨k, 8, none⟩ = some (.slice au entries.length cu)) := fun W h0 => by have h := h0.1; exact ⟨cell_in h 0 _ rfl, cell_in h 1 _ rfl, cell_in h 2 _ rfl, cell_in h 3 _ rfl, cell_in h 4 _ rfl, cell_in h 5 _ rfl, cell_in h 6 _ rfl, cell_in h 7 _ rfl, cell_in h 8 _ rfl⟩
  go_region_held3 (fun W => W.cell? ⟨k, 0, none⟩ = some (.int .i64 (kind : Int)) ∧ W.cell? ⟨k, 1, none⟩ = some (.int .i64 (src : Int)) ∧ W.cell? ⟨k, 2, none⟩ = some (.int .i64 (dest : Int)) ∧ W.cell? ⟨k, 3, none⟩ = some (.int .u64 term) ∧ W.cell? ⟨k, 4, none⟩ = some (.int .u64 index) ∧ W.cell? ⟨k, 5, none⟩ = some (.int .u64 logTerm) ∧ W.cell? ⟨k, 6, none⟩ = some (.int .u64 commit) ∧ W.cell? ⟨k, 7, none⟩ = some (.bool ok) ∧ W.cell? ⟨k, 8, none⟩ = some (.slice au entries.length cu)) (first | exact HCO1.out _ (by assumption))
    (first
    | (go_at_call 30; refine Calls.mono (wnum_any _ (by first | assumption | omega) _) ?_; rintro e w' ⟨rfl, hb'⟩; have hZ' := ZB.below (by assumption) hb'; clear hb')
    | (go_at_call 32; refine Calls.mono (wyes_any _ _) ?_; rintro e w' ⟨rfl, hb'⟩; have hZ' := ZB.below (by assumption) hb'; clear hb')
    | (go_at_call 31; refine Calls.mono (wtext_any _ (by omega) _) ?_; rintro e w' ⟨rfl, hb'⟩; have hZ' := ZB.below (by assumption) hb'; clear hb'))
  have hZ3 := hZ'
  have HA := hid (show A7 = num kind ++ num src ++ num dest ++ num term ++ num index ++ num logTerm ++ num commit ++ num (bitN ok) ++ num entries.length by rw [← Ae7, ← Ae6, ← Ae5, ← Ae4, ← Ae3, ← Ae2, ← Ae1, ← Ae0])
  clear Ae0 As0 An0 Az0 Ae1 As1 An1 Az1 Ae2 As2 An2 Az2 Ae3 As3 An3 Az3 Ae4 As4 An4 Az4 Ae5 As5 An5 Az5 Ae6 As6 An6 Az6 Ae7 As7 An7 Az7 sz0 sz1 sz2 sz3 sz4 sz5 sz6 sz7 sz8 HCO1
  have HCU : Hid (∀ W : World, ZB w.heap.size k w (.cells #[.int .i64 (kind : Int), .int .i64 (src : Int), .int .i64 (dest : Int), .int .u64 term, .int .u64 index, .int .u64 logTerm, .int .u64 commit, .bool ok, .slice au entries.length cu, .slice af conf.length cf, .int .i64 (offset : Int), .int .i64 (size : Int), .string (str data)] 32) W → W.cell? ⟨k, 8, none⟩ = some (.slice au entries.length cu)) := fun W h0 => cell_in h0.1 8 _ rfl
  have HCF : Hid (∀ W : World, ZB w.heap.size k w (.cells #[.int .i64 (kind : Int), .int .i64 (src : Int), .int .i64 (dest : Int), .int .u64 term, .int .u64 index, .int .u64 logTerm, .int .u64 commit, .bool ok, .slice au entries.length cu, .slice af conf.length cf, .int .i64 (offset : Int), .int .i64 (size : Int), .string (str data)] 32) W → W.cell? ⟨k, 9, none⟩ = some (.slice af conf.length cf)) := fun W h0 => cell_in h0.1 9 _ rfl
  obtain ⟨_, hcu, hcellu⟩ := HU.out.at
  obtain ⟨_, hcf, hcellf⟩ := HF.out.at
  have HXU := hid hcellu
  have HXF := hid hcellf
  clear hcellu hcellf HU HF
  have c9 := HCU.out _ hZ3
  go_wp2_with fail
  go_loopw [3, 4] (fun vs i wr => ∃ j : Nat, i = .int .i64 j ∧ j ≤ entries.length ∧ vs = .string (str (A7 ++ flatOf enBytes entries j)) ∧ ZB w.heap.size k w (.cells #[.int .i64 (kind : Int), .int .i64 (src : Int), .int .i64 (dest : Int), .int .u64 term, .int .u64 index, .int .u64 logTerm, .int .u64 commit, .bool ok, .slice au entries.length cu, .slice af conf.length cf, .int .i64 (offset : Int), .int .i64 (size : Int), .string (str data)] 32) wr) (fun _ i _ => entries.length - (intOf i).toNat)
  case atStart => exact ⟨0, rfl, Nat.zero_le _, by simp [flatOf], hZ3⟩
  case round =>
    obtain ⟨j, rfl, hj, rfl, hZ⟩ := hrel
    clear hZ3 c9
    have c9 := HCU.out _ hZ
    by_cases hlt : j < entries.length
    · obtain ⟨b, off, rfl, hcell⟩ := HXU.out (by rw [enVals_len]; omega)
      have HS := hid (flatOf_succ enBytes entries j hlt)
      have hr1 := F9.out _ (List.getElem_mem hlt)
      have hr2 := P5.out _ (List.getElem_mem hlt)
      have HC7 : Hid (∀ W : World, ZB w.heap.size k w (.cells #[.int .i64 (kind : Int), .int .i64 (src : Int), .int .i64 (dest : Int), .int .u64 term, .int .u64 index, .int .u64 logTerm, .int .u64 commit, .bool ok, .slice (some ⟨b, off, none⟩) entries.length cu, .slice af conf.length cf, .int .i64 (offset : Int), .int .i64 (size : Int), .string (str data)] 32) W → W.cell? ⟨k, 8, none⟩ = some (.slice (some ⟨b, off, none⟩) entries.length cu) ∧ W.cell? ⟨b, off + j * 3, none⟩ = some (.int .u64 (entries[j].term : Nat)) ∧ W.cell? ⟨b, off + j * 3 + 1, none⟩ = some (.int .i64 entries[j].kind) ∧ W.cell? ⟨b, off + j * 3 + 2, none⟩ = some (.string (str entries[j].data))) := fun W h0 =>
        ⟨cell_in h0.1 8 _ rfl, hcell W h0.2.1 _ _ (enVals_at entries j hlt).1, by have h2 := hcell W h0.2.1 _ _ (enVals_at entries j hlt).2.1; rw [show off + (j * 3 + 1) = off + j * 3 + 1 by omega] at h2; exact h2, by have h2 := hcell W h0.2.1 _ _ (enVals_at entries j hlt).2.2; rw [show off + (j * 3 + 2) = off + j * 3 + 2 by omega] at h2; exact h2⟩
      have hlz := flatOf_le enBytes 1000100 entries (fun x hx => enBytes_le x (hoe.out x hx)) j
      clear hcell
      generalize entries[j] = r at *
      obtain ⟨et, ek, ed⟩ := r
      simp only at HC7 hr1 hr2
      obtain ⟨hk1, hk2, hd3⟩ := hr2
      obtain ⟨kn, rfl⟩ := Int.eq_ofNat_of_zero_le (a := ek) (by omega)
      have hw20 : IntKind.u64.wrap (kn : Int) = (kn : Int) := by rw [IntKind.wrap_u64]; omega
      have t20 : kn < top64 := by unfold top64; omega
      have ln20 := num_len et
      have ln21 := num_len kn
      have ln22 := text_len ed
      have sz20 : (str (num et)).size = (num et).length := str_size _
      have sz21 : (str (num kn)).size = (num kn).length := str_size _
      have sz23 : (str (text ed)).size = (text ed).length := str_size _
      have hzl : (A7 ++ flatOf enBytes entries j).length ≤ 65000000 := by rw [List.length_append]; omega
      generalize hZZ : A7 ++ flatOf enBytes entries j = Z at *
      have sz22 : (str Z).size = Z.length := str_size _
      generalize Be0 : Z ++ num et = B0
      have Bs0 : str (Z) ++ str (num et) = str B0 := by rw [str_append, Be0]
      have Bb0 : B0.length ≤ 65005000 := by rw [← Be0, List.length_append]; omega
      have Bn0 : ¬ (9223372036854775807 < (Z).length + (num et).length) := by omega
      have Bz0 : (str B0).size = B0.length := str_size _
      generalize Be1 : B0 ++ num kn = B1
      have Bs1 : str (B0) ++ str (num kn) = str B1 := by rw [str_append, Be1]
      have Bb1 : B1.length ≤ 65010000 := by rw [← Be1, List.length_append]; omega
      have Bn1 : ¬ (9223372036854775807 < (B0).length + (num kn).length) := by omega
      have Bz1 : (str B1).size = B1.length := str_size _
      generalize Be2 : B1 ++ text ed = B2
      have Bs2 : str (B1) ++ str (text ed) = str B2 := by rw [str_append, Be2]
      have Bb2 : B2.length ≤ 65015000 := by rw [← Be2, List.length_append]; omega
      have Bn2 : ¬ (9223372036854775807 < (B1).length + (text ed).length) := by omega
      have Bz2 : (str B2).size = B2.length := str_size _
      have HS2 := hid (show A7 ++ flatOf enBytes entries (j + 1) = B2 by rw [HS.out, ← Be2, ← Be1, ← Be0, ← hZZ]; unfold enBytes; simp only [List.append_assoc, Int.toNat_natCast])
      clear hZZ Be0 Be1 Be2 HS hlz
      have hZd : ZB w.heap.size k w (.cells #[.int .i64 (kind : Int), .int .i64 (src : Int), .int .i64 (dest : Int), .int .u64 term, .int .u64 index, .int .u64 logTerm, .int .u64 commit, .bool ok, .slice (some ⟨b, off, none⟩) entries.length cu, .slice af conf.length cf, .int .i64 (offset : Int), .int .i64 (size : Int), .string (str data)] 32) wr.drew := ⟨hZ.1, hZ.2.1.drew, hZ.2.2⟩
      go_wp2_with fail
      clear hZ c9
      go_region_held3 (fun W => W.cell? ⟨k, 8, none⟩ = some (.slice (some ⟨b, off, none⟩) entries.length cu) ∧ W.cell? ⟨b, off + j * 3, none⟩ = some (.int .u64 (et : Nat)) ∧ W.cell? ⟨b, off + j * 3 + 1, none⟩ = some (.int .i64 (kn : Int)) ∧ W.cell? ⟨b, off + j * 3 + 2, none⟩ = some (.string (str ed))) (first | exact HC7.out _ (by assumption))
    (first
    | (go_at_call 30; refine Calls.mono (wnum_any _ (by first | assumption | omega) _) ?_; rintro e w' ⟨rfl, hb'⟩; have hZ' := ZB.below (by assumption) hb'; clear hb')
    | (go_at_call 32; refine Calls.mono (wyes_any _ _) ?_; rintro e w' ⟨rfl, hb'⟩; have hZ' := ZB.below (by assumption) hb'; clear hb')
    | (go_at_call 31; refine Calls.mono (wtext_any _ (by omega) _) ?_; rintro e w' ⟨rfl, hb'⟩; have hZ' := ZB.below (by assumption) hb'; clear hb'))
      have hZE := hZ'
      go_wp2_with fail
      go_roundw
      case rel => exact ⟨j + 1, by go_num, by omega, by rw [HS2.out], hZE⟩
      case measure => simp [intOf]; omega
    · obtain rfl : j = entries.length := by omega
      have HT := hid (flatOf_all enBytes entries entries.length (Nat.le_refl _))
      have hlz := flatOf_le enBytes 1000100 entries (fun x hx => enBytes_le x (hoe.out x hx)) entries.length
      have hzl : (A7 ++ flatOf enBytes entries entries.length).length ≤ 65000000 := by rw [List.length_append]; omega
      generalize hC0 : A7 ++ flatOf enBytes entries entries.length = C0 at *
      have HC0 := hid (show C0 = A7 ++ (entries.map enBytes).flatten by rw [← hC0, HT.out])
      clear hC0 HT hlz
      have ln30 := num_len conf.length
      have sz30 : (str (num conf.length)).size = (num conf.length).length := str_size _
      have sz31 : (str C0).size = C0.length := str_size _
      generalize De0 : C0 ++ num conf.length = D0
      have Ds0 : str (C0) ++ str (num conf.length) = str D0 := by rw [str_append, De0]
      have Db0 : D0.length ≤ 65005000 := by rw [← De0, List.length_append]; omega
      have Dn0 : ¬ (9223372036854775807 < (C0).length + (num conf.length).length) := by omega
      have Dz0 : (str D0).size = D0.length := str_size _
      have HC1 := hid (show D0 = A7 ++ (entries.map enBytes).flatten ++ num conf.length by rw [← De0, HC0.out])
      clear De0 HC0
      have c10 := HCF.out _ hZ
      go_wp2_with fail
      refine Calls.mono (wnum_any _ t4 _) ?_
      rintro e w5 ⟨rfl, hb5⟩
      have hZ5 := hZ.below hb5
      clear hb5 c10 c9 hZ
      have c10 := HCF.out _ hZ5
      go_wp2_with fail
      clear Ds0 Dn0
      go_loopw [3, 5] (fun vs i wr => ∃ q : Nat, i = .int .i64 q ∧ q ≤ conf.length ∧ vs = .string (str (D0 ++ flatOf cfBytes conf q)) ∧ ZB w.heap.size k w (.cells #[.int .i64 (kind : Int), .int .i64 (src : Int), .int .i64 (dest : Int), .int .u64 term, .int .u64 index, .int .u64 logTerm, .int .u64 commit, .bool ok, .slice au entries.length cu, .slice af conf.length cf, .int .i64 (offset : Int), .int .i64 (size : Int), .string (str data)] 32) wr) (fun _ i _ => conf.length - (intOf i).toNat)
      case atStart => exact ⟨0, rfl, Nat.zero_le _, by simp [flatOf], hZ5⟩
      case round =>
        obtain ⟨q, rfl, hq, rfl, hZ⟩ := hrel
        clear hZ5 c10
        have c10 := HCF.out _ hZ
        have hlz := flatOf_le cfBytes 1000100 conf (fun x hx => cfBytes_le x (hoc.out x hx)) q
        have hzl2 : (D0 ++ flatOf cfBytes conf q).length ≤ 85000000 := by rw [List.length_append]; omega
        by_cases hlt2 : q < conf.length
        · obtain ⟨b, off, rfl, hcell⟩ := HXF.out (by rw [intVals_len]; omega)
          have hx2 := hcell wr hZ.2.1 _ _ (intVals_at conf q hlt2)
          have HS := hid (flatOf_succ cfBytes conf q hlt2)
          have hf8 := P7.out _ (List.getElem_mem hlt2)
          clear hcell
          generalize conf[q] = f at *
          obtain ⟨fn, rfl⟩ := Int.eq_ofNat_of_zero_le (a := f) (by omega)
          have hw40 : IntKind.u64.wrap (fn : Int) = (fn : Int) := by rw [IntKind.wrap_u64]; omega
          have t40 : fn < top64 := by unfold top64; omega
          have ln40 := num_len fn
          have sz40 : (str (num fn)).size = (num fn).length := str_size _
          generalize hZZ : D0 ++ flatOf cfBytes conf q = Z at *
          have sz41 : (str Z).size = Z.length := str_size _
          generalize Ee0 : Z ++ num fn = E0
          have Es0 : str (Z) ++ str (num fn) = str E0 := by rw [str_append, Ee0]
          have Eb0 : E0.length ≤ 85005000 := by rw [← Ee0, List.length_append]; omega
          have En0 : ¬ (9223372036854775807 < (Z).length + (num fn).length) := by omega
          have Ez0 : (str E0).size = E0.length := str_size _
          have HS2 := hid (show D0 ++ flatOf cfBytes conf (q + 1) = E0 by rw [HS.out, ← Ee0, ← hZZ, List.append_assoc]; rfl)
          clear hZZ Ee0 HS hlz
          go_wp2_with fail
          refine Calls.mono (wnum_any fn t40 _) ?_
          rintro e w6 ⟨rfl, hb6⟩
          have hZ6 := hZ.below hb6
          clear hb6 c10 hZ
          go_wp2_with fail
          go_roundw
          case rel => exact ⟨q + 1, by go_num, by omega, by rw [HS2.out], hZ6⟩
          case measure => simp [intOf]; omega
        · obtain rfl : q = conf.length := by omega
          have HT := hid (flatOf_all cfBytes conf conf.length (Nat.le_refl _))
          generalize hC0 : D0 ++ flatOf cfBytes conf conf.length = G at *
          have HG := hid (show G = A7 ++ (entries.map enBytes).flatten ++ num conf.length ++ (conf.map cfBytes).flatten by rw [← hC0, HT.out, HC1.out])
          clear hC0 HT hlz
          have sz50 : (str G).size = G.length := str_size _
          have ln50 : (num offset).length ≤ 10 := num_len _
          have ln51 : (num size).length ≤ 10 := num_len _
          have sz60 : (str (num offset)).size = (num offset).length := str_size _
          have sz61 : (str (num size)).size = (num size).length := str_size _
          have sz62 : (str (text data)).size = (text data).length := str_size _
          generalize Fe0 : G ++ num offset = F0
          have Fs0 : str (G) ++ str (num offset) = str F0 := by rw [str_append, Fe0]
          have Fb0 : F0.length ≤ 85005000 := by rw [← Fe0, List.length_append]; omega
          have Fn0 : ¬ (9223372036854775807 < (G).length + (num offset).length) := by omega
          have Fz0 : (str F0).size = F0.length := str_size _
          generalize Fe1 : F0 ++ num size = F1
          have Fs1 : str (F0) ++ str (num size) = str F1 := by rw [str_append, Fe1]
          have Fb1 : F1.length ≤ 85010000 := by rw [← Fe1, List.length_append]; omega
          have Fn1 : ¬ (9223372036854775807 < (F0).length + (num size).length) := by omega
          have Fz1 : (str F1).size = F1.length := str_size _
          generalize Fe2 : F1 ++ text data = F2
          have Fs2 : str (F1) ++ str (text data) = str F2 := by rw [str_append, Fe2]
          have Fb2 : F2.length ≤ 85015000 := by rw [← Fe2, List.length_append]; omega
          have Fn2 : ¬ (9223372036854775807 < (F1).length + (text data).length) := by omega
          have Fz2 : (str F2).size = F2.length := str_size _
          have HXB : Hid (x.body = F2) := by
            show x.body = F2
            rw [← Fe2, ← Fe1, ← Fe0, HG.out, HA.out, hx.out]
            unfold Ms.body listB
            simp only [Int.toNat_natCast, List.map_cons, List.map_nil, List.flatten_cons, List.flatten_nil, List.append_nil, List.append_assoc]
          clear Fe0 Fe1 Fe2
          have HCO11 : Hid (∀ W : World, ZB w.heap.size k w (.cells #[.int .i64 (kind : Int), .int .i64 (src : Int), .int .i64 (dest : Int), .int .u64 term, .int .u64 index, .int .u64 logTerm, .int .u64 commit, .bool ok, .slice au entries.length cu, .slice af conf.length cf, .int .i64 (offset : Int), .int .i64 (size : Int), .string (str data)] 32) W → W.cell? ⟨k, 10, none⟩ = some (.int .i64 (offset : Int)) ∧ W.cell? ⟨k, 11, none⟩ = some (.int .i64 (size : Int)) ∧ W.cell? ⟨k, 12, none⟩ = some (.string (str data))) := fun W h0 => by have h := h0.1; exact ⟨cell_in h 10 _ rfl, cell_in h 11 _ rfl, cell_in h 12 _ rfl⟩
          have hZd : ZB w.heap.size k w (.cells #[.int .i64 (kind : Int), .int .i64 (src : Int), .int .i64 (dest : Int), .int .u64 term, .int .u64 index, .int .u64 logTerm, .int .u64 commit, .bool ok, .slice au entries.length cu, .slice af conf.length cf, .int .i64 (offset : Int), .int .i64 (size : Int), .string (str data)] 32) wr.drew := ⟨hZ.1, hZ.2.1.drew, hZ.2.2⟩
          go_wp2_with fail
          clear hZ c10
          go_region_held3 (fun W => W.cell? ⟨k, 10, none⟩ = some (.int .i64 (offset : Int)) ∧ W.cell? ⟨k, 11, none⟩ = some (.int .i64 (size : Int)) ∧ W.cell? ⟨k, 12, none⟩ = some (.string (str data))) (first | exact HCO11.out _ (by assumption))
    (first
    | (go_at_call 30; refine Calls.mono (wnum_any _ (by first | assumption | omega) _) ?_; rintro e w' ⟨rfl, hb'⟩; have hZ' := ZB.below (by assumption) hb'; clear hb')
    | (go_at_call 32; refine Calls.mono (wyes_any _ _) ?_; rintro e w' ⟨rfl, hb'⟩; have hZ' := ZB.below (by assumption) hb'; clear hb')
    | (go_at_call 31; refine Calls.mono (wtext_any _ (by omega) _) ?_; rintro e w' ⟨rfl, hb'⟩; have hZ' := ZB.below (by assumption) hb'; clear hb'))
          have hZE := hZ'
          go_wp2_with fail
          go_ret
          rw [HXB.out]
          exact ⟨rfl, hZE.2.1⟩
theorem refBody_any (x : Ms) (vu vf : Value) (w : World) (D : List Nat) (hu : Cells D w vu x.entries.length (enVals x.entries)) (hf : Cells D w vf x.conf.length (intVals x.conf)) (hyes : mayMs x = true) (hfit : x.fit) :
    Calls Try.prog 56 #[.agg (x.cells vu vf)] w fun e w' => e = .returned (.string (str x.body)) ∧ Below w.heap.size w w' := by
  have hp := mayMs_parts hyes
  obtain ⟨kind, src, dest, term, index, logTerm, commit, ok, entries, conf, offset, size, data⟩ := x
  obtain ⟨n0, rfl⟩ := Int.eq_ofNat_of_zero_le (a := kind) (by have := hp.1.1; simp only at this; omega)
  obtain ⟨n1, rfl⟩ := Int.eq_ofNat_of_zero_le (a := src) (by have := hp.2.1.1; simp only at this; omega)
  obtain ⟨n2, rfl⟩ := Int.eq_ofNat_of_zero_le (a := dest) (by have := hp.2.2.1.1; simp only at this; omega)
  obtain ⟨n3, rfl⟩ := Int.eq_ofNat_of_zero_le hp.2.2.2.2.2.2.2.1.1
  obtain ⟨n4, rfl⟩ := Int.eq_ofNat_of_zero_le hp.2.2.2.2.2.2.2.2.1.1
  exact refBody_at n0 n1 n2 term index logTerm commit n3 n4 ok entries conf data _ (hid rfl) vu vf w D hu hf hyes hfit
theorem refFrameE {u : Bytes} (hu : u.length ≤ maxLen) (w : World) :
    Calls Try.prog 55 #[.string (str u)] w fun x w' => x = .returned (.tuple #[.string (str (frameOf u).1), .int .i64 ((frameOf u).2 : Nat)]) ∧ Below w.heap.size w w' :=
  refFrame_any (str u) w (by rw [str_size]; exact hu)
set_option maxRecDepth 100000 in
set_option maxHeartbeats 4000000 in
theorem refWriteMs_any (x : Ms) (vu vf : Value) (w : World) (D : List Nat) (hu : Cells D w vu x.entries.length (enVals x.entries)) (hf : Cells D w vf x.conf.length (intVals x.conf)) (hul : x.entries.length ≤ 1152921504606846976) (hfl : x.conf.length ≤ 1152921504606846976) (hm : ∀ e ∈ x.entries, e.data.length ≤ maxLen)
    (hd : x.data.length ≤ maxLen) (hfit : x.fit) :
    Calls Try.prog 16 #[.agg (x.cells vu vf)] w fun e w' => e = .returned (.tuple #[.string (str (msWrite x).1), .bool (mayMs x)]) ∧ Below w.heap.size w w' := by
  have HB0 : Hid (Below w.heap.size w (w.alloc (.cells (x.cells vu vf) 32))) := (Below.refl _ _).alloc (Nat.le_refl _) _
  have HK := hid (heap_alloc_new w (.cells (x.cells vu vf) 32))
  have H := hid (refMayMs_any x vu vf (w.alloc (.cells (x.cells vu vf) 32)) D (hu.below HB0.out) (hf.below HB0.out) hul hfl hm hd)
  have HU := hid (hu.below HB0.out)
  have HF := hid (hf.below HB0.out)
  have HFIT := hid hfit
  obtain ⟨au, cu, eu⟩ := hu.form
  obtain ⟨af, cf, ef⟩ := hf.form
  subst eu ef
  clear hu hf hm hfit
  cases hy : mayMs x
  · have HO := hid (show msWrite x = ([], 1) by unfold msWrite; rw [if_neg (by rw [hy]; simp)])
    rw [hy] at H
    go_enter Try.func16, Try.ntmps16
    go_wp2_with (refine wpList_load_row rfl 32 _ rfl w.heap.size (by rfl) 32 (x.cells _ _) (0, 0) _ HK.out Try.underlying32 rfl (by kernel_rfl) ?_)
    refine Calls.mono H.out ?_
    rintro e w1 ⟨rfl, hb1⟩
    go_wp2_with fail
    go_ret2
    rw [HO.out]
    exact ⟨rfl, HB0.out.trans (hb1.mono HB0.out.size)⟩
  · have HO := hid (show msWrite x = frameOf x.body by unfold msWrite; rw [if_pos hy])
    have hpl : x.body.length ≤ 65536 := by
      have h1 := frameOf_body x hy
      unfold frameOf at h1
      split at h1
      · simp at h1
      · omega
    have HY := hid hy
    rw [hy] at H
    clear hy
    go_enter Try.func16, Try.ntmps16
    go_wp2_with (refine wpList_load_row rfl 32 _ rfl w.heap.size (by rfl) 32 (x.cells _ _) (0, 0) _ HK.out Try.underlying32 rfl (by kernel_rfl) ?_)
    refine Calls.mono H.out ?_
    rintro e w1 ⟨rfl, hb1⟩
    have HK1 := hid (blk_below HK.out hb1)
    have HB1 := hid (HB0.out.trans (hb1.mono HB0.out.size))
    have HW := hid (refBody_any x _ _ w1 D (HU.out.below hb1) (HF.out.below hb1) HY.out HFIT.out)
    clear hb1 H HK HB0 HU HF HFIT
    go_wp2_with (refine wpList_load_row rfl 32 _ rfl w.heap.size (by rfl) 32 (x.cells _ _) (0, 0) _ HK1.out Try.underlying32 rfl (by kernel_rfl) ?_)
    refine Calls.mono HW.out ?_
    rintro e w2 ⟨rfl, hb2⟩
    have HB2 := hid (HB1.out.trans (hb2.mono HB1.out.size))
    clear hb2 HB1 HW HK1
    go_wp2_with fail
    refine Calls.mono (refFrameE (u := x.body) (by unfold maxLen; omega) _) ?_
    rintro e w3 ⟨rfl, hb3⟩
    go_wp2_with fail
    go_ret2
    rw [HO.out]
    exact ⟨rfl, HB2.out.trans (hb3.mono HB2.out.size)⟩
end Go.Proofs.Ytgkapgfpalbkjaa
