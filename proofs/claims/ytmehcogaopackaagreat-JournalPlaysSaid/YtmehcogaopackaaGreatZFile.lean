/-
  The walk of the reference's File.
-/
import Derived.Test.YtmehcogaopackaaGreatGK
import Derived.Test.YtmehcogaopackaaGreatJWhole
import Derived.Test.YtmehcogaopackaaGreatGD
namespace Go.Proofs.YtmehcogaopackaaGreat
open Go.RowKit
set_option linter.unusedVariables false
set_option linter.unusedSimpArgs false
theorem entRecs_len : ∀ (l : List En) (i : Nat), (entRecs i l).length = l.length
  | [], _ => rfl
  | a :: l, i => by rw [entRecs, List.length_cons, entRecs_len l, List.length_cons]
theorem drop_drop' (l : Bytes) (a b : Nat) : (l.drop a).drop b = l.drop (a + b) := by rw [List.drop_drop]
set_option maxRecDepth 100000 in
set_option maxHeartbeats 8000000 in
theorem rfile_at (term vote life base bterm : Nat) (ns : List Nat) (l : List En) (image : Bytes) (S : Js) (hS : Hid (S = ⟨⟨term, vote, life⟩, ⟨base, bterm, ns.map fun (n : Nat) => (n : Int), l⟩, image⟩)) (vc vl : Value) (w : World)
    (hc : Cells [] w vc ns.length (intVals (ns.map fun (n : Nat) => (n : Int)))) (hl : Cells [] w vl l.length (enVals l)) (ht : term < top64) (hv : vote < 1000) (hlf : life < top64) (hb : base ≤ 4611686018427387904) (hbt : bterm < top64) (hn : ns.length ≤ 5) (hns : ∀ n ∈ ns, n < 1000)
    (hll : l.length ≤ 1000000) (hle : ∀ e ∈ l, e.term < top64 ∧ mayEn e = true) (him : image.length ≤ 262144) :
    Calls Tryz.prog 50 #[.agg #[.int .u64 term, .int .i64 (vote : Int), .int .u64 life, .int .u64 base, .int .u64 bterm, vc, vl, .string (str image)]] w fun e w' => e = .returned (.string (str (fileB S))) ∧ Below w.heap.size w w' := by
  obtain ⟨ac, cc, rfl⟩ := hc.form
  obtain ⟨al, cl, rfl⟩ := hl.form
  have hB0 : Below w.heap.size w (w.alloc (.cells #[.int .u64 term, .int .i64 (vote : Int), .int .u64 life, .int .u64 base, .int .u64 bterm, .slice ac ns.length cc, .slice al l.length cl, .string (str image)] 51)) := (Below.refl _ _).alloc (Nat.le_refl _) _
  have hk0 := heap_alloc_new w (.cells #[.int .u64 term, .int .i64 (vote : Int), .int .u64 life, .int .u64 base, .int .u64 bterm, .slice ac ns.length cc, .slice al l.length cl, .string (str image)] 51)
  have HC := hid hc.at.2.2
  have HL := hid hl.at.2.2
  have HNS := hid hns
  have HLE := hid hle
  have hnl : (nums ns).length ≤ 10 + 10 * ns.length := by
    unfold nums
    rw [List.length_append]
    have := num_len ns.length
    have := flat_len ns
    omega
  have HB0 := hid hB0
  have HK0 := hid hk0
  clear hc hl hns hle hB0 hk0
  obtain ⟨i0, hi, hz0, hz1, hz2⟩ := info_parts infoU64
  go_enter Tryz.func50, Tryz.ntmps50
  go_wp2_with fail
  generalize w.alloc (.cells #[.int .u64 term, .int .i64 (vote : Int), .int .u64 life, .int .u64 base, .int .u64 bterm, .slice ac ns.length cc, .slice al l.length cl, .string (str image)] 51) = W0 at *
  generalize hke : w.heap.size = k at HK0 ⊢
  clear hke
  have hw1 : IntKind.u64.wrap (image.length : Int) = (image.length : Int) := by rw [IntKind.wrap_u64]; omega
  have ti : image.length < top64 := by unfold top64; omega
  have tb : base < top64 := by unfold top64; omega
  have hzi : (str image).size = image.length := str_size _
  go_loopw [3, 4] (fun vo i wr => ∃ q : Nat, i = .int .i64 q ∧ q ≤ ns.length ∧ wr.ownsRow w.heap.size 43 1 vo q (u64Vals (ns.take q)) ∧ Below w.heap.size w wr ∧ wr.heap[k]? = some (.cells #[.int .u64 term, .int .i64 (vote : Int), .int .u64 life, .int .u64 base, .int .u64 bterm, .slice ac ns.length cc, .slice al l.length cl, .string (str image)] 51)) (fun _ i _ => ns.length - (intOf i).toNat)
  case atStart => exact ⟨0, rfl, Nat.zero_le _, World.ownsRow_nil _ _ _ _, HB0.out, HK0.out⟩
  case round =>
  obtain ⟨q, rfl, hq, ho, hb0, hkr⟩ := hrel
  have c5 := cell_in hkr 5 (.slice ac ns.length cc) rfl
  by_cases hlt : q < ns.length
  · as_aux_lemma =>
    obtain ⟨b, off, rfl, hcell⟩ := HC.out (by rw [intVals_len, List.length_map]; omega)
    have hx := hcell wr hb0 _ _ (intVals_at (ns.map fun (n : Nat) => (n : Int)) q (by rw [List.length_map]; exact hlt))
    rw [List.getElem_map] at hx
    have hsm := HNS.out _ (List.getElem_mem hlt)
    have HT := hid (show u64Vals (ns.take (q + 1)) = u64Vals (ns.take q) ++ [.int .u64 (ns[q] : Int)] by unfold u64Vals; rw [List.take_succ_eq_append_getElem hlt, List.map_append]; rfl)
    have hBs := hb0.size
    have hkl := (Array.getElem?_eq_some_iff.1 hkr).1
    clear hcell
    generalize ns[q] = n at *
    have hw1 : IntKind.u64.wrap (n : Int) = (n : Int) := by rw [IntKind.wrap_u64]; omega
    go_wp2_with (at_builtin; refine wpList_append_own _ rfl _ _ 148 rfl w.heap.size 43 i0 (.int .u64 0) 1 8 Tryz.underlying148 hi hz0 hz1 hz2 rfl (by decide) _ _ _ rfl (ho.alloc _) ⟨wr.heap.size, 0, none⟩ 1 1 [.int .u64 (n : Int)] rfl rfl (cell_one_new _ _ _) (by simp [Value.oneCell']) (by unfold maxLen; omega) (by omega) (by simp; omega) ?_; intro v' w1 hown' hgrow _)
    have hB1 := (hb0.alloc hBs _).grown hgrow (by simp; omega) (fun j hj => (ho.lt j hj).1)
    have hk1 := (hgrow.block k (by rw [World.size_alloc]; omega) (own_ne ho hkr (fun cur e => by cases e))).trans ((heap_alloc_old wr _ hkl).trans hkr)
    go_roundw
    case rel => exact ⟨q + 1, by go_num, by omega, by rw [HT.out]; exact hown', hB1, hk1⟩
    case measure => simp [intOf]; omega
  obtain rfl : q = ns.length := by omega
  have HH := hid (holdsNums_row (ns := ns) (by rw [List.take_length] at ho; exact ho) (by omega) (fun n hn => by have := HNS.out n hn; unfold top64; omega))
  have hW1 : ZB wr.heap.size k wr (.cells #[.int .u64 term, .int .i64 (vote : Int), .int .u64 life, .int .u64 base, .int .u64 bterm, .slice ac ns.length cc, .slice al l.length cl, .string (str image)] 51) wr.drew := ⟨hkr, (Below.refl _ _).drew, Nat.le_refl _⟩
  have HBR := hid hb0
  clear ho hb0 hkr hlt hq HB0 HK0
  as_aux_lemma =>
  have ln0 : (num 1).length ≤ 10 := num_len _
  have ln1 : (num base).length ≤ 10 := num_len _
  have ln2 : (num bterm).length ≤ 10 := num_len _
  have ln3 : (num image.length).length ≤ 10 := num_len _
  have sz0 : (str (num 1)).size = (num 1).length := str_size _
  have sz1 : (str (num base)).size = (num base).length := str_size _
  have sz2 : (str (num bterm)).size = (num bterm).length := str_size _
  have sz3 : (str (num image.length)).size = (num image.length).length := str_size _
  have szn : (str (nums ns)).size = (nums ns).length := str_size _
  generalize Ae0 : num 1 ++ num base = A0 at *
  have As0 : str (num 1) ++ str (num base) = str A0 := by rw [str_append, Ae0]
  have Ab0 : A0.length ≤ 5100 := by rw [← Ae0, List.length_append]; omega
  have An0 : ¬ (9223372036854775807 < (num 1).length + (num base).length) := by omega
  have Az0 : (str A0).size = A0.length := str_size _
  generalize Ae1 : A0 ++ num bterm = A1 at *
  have As1 : str (A0) ++ str (num bterm) = str A1 := by rw [str_append, Ae1]
  have Ab1 : A1.length ≤ 10100 := by rw [← Ae1, List.length_append]; omega
  have An1 : ¬ (9223372036854775807 < (A0).length + (num bterm).length) := by omega
  have Az1 : (str A1).size = A1.length := str_size _
  generalize Ae2 : A1 ++ nums ns = A2 at *
  have As2 : str (A1) ++ str (nums ns) = str A2 := by rw [str_append, Ae2]
  have Ab2 : A2.length ≤ 15100 := by rw [← Ae2, List.length_append]; omega
  have An2 : ¬ (9223372036854775807 < (A1).length + (nums ns).length) := by omega
  have Az2 : (str A2).size = A2.length := str_size _
  generalize Ae3 : A2 ++ num image.length = A3 at *
  have As3 : str (A2) ++ str (num image.length) = str A3 := by rw [str_append, Ae3]
  have Ab3 : A3.length ≤ 20100 := by rw [← Ae3, List.length_append]; omega
  have An3 : ¬ (9223372036854775807 < (A2).length + (num image.length).length) := by omega
  have Az3 : (str A3).size = A3.length := str_size _
  have HBL := hid (show A3.length ≤ 65536 by omega)
  have HA := hid (show frame A3 = frame (baseBody ⟨base, bterm, ns.map fun (n : Nat) => (n : Int), l⟩ image.length) by
    unfold baseBody
    rw [← Ae3, ← Ae2, ← Ae1, ← Ae0]
    simp only [List.map_map]
    have : (Int.toNat ∘ fun (n : Nat) => (n : Int)) = id := by funext n; simp
    rw [this, List.map_id])
  clear Ae0 Ae1 Ae2 Ae3
  have HCO : Hid (∀ W : World, ZB wr.heap.size k wr (.cells #[.int .u64 term, .int .i64 (vote : Int), .int .u64 life, .int .u64 base, .int .u64 bterm, .slice ac ns.length cc, .slice al l.length cl, .string (str image)] 51) W → W.cell? ⟨k, 3, none⟩ = some (.int .u64 base) ∧ W.cell? ⟨k, 4, none⟩ = some (.int .u64 bterm) ∧ W.cell? ⟨k, 7, none⟩ = some (.string (str image))) := fun W h => ⟨cell_in h.1 3 _ rfl, cell_in h.1 4 _ rfl, cell_in h.1 7 _ rfl⟩
  have HHN : Hid (∀ W : World, ZB wr.heap.size k wr (.cells #[.int .u64 term, .int .i64 (vote : Int), .int .u64 life, .int .u64 base, .int .u64 bterm, .slice ac ns.length cc, .slice al l.length cl, .string (str image)] 51) W → HoldsNums W _ ns) := fun W h => holdsNums_below HH.out h.2.1
  go_wp2_with fail
  go_region_held3 (fun W => W.cell? ⟨k, 3, none⟩ = some (.int .u64 base) ∧ W.cell? ⟨k, 4, none⟩ = some (.int .u64 bterm) ∧ W.cell? ⟨k, 7, none⟩ = some (.string (str image))) (exact HCO.out _ (by assumption))
    (first
    | (go_at_call 91; (with_reducible refine Calls.mono (rnumL1 _) ?_); rintro e w' ⟨rfl, hb'⟩; have hZ' := ZB.below (by assumption) hb'; clear hb')
    | (go_at_call 91; (with_reducible refine Calls.mono (znum_any _ (by first | assumption | (unfold top64; omega)) _) ?_); rintro e w' ⟨rfl, hb'⟩; have hZ' := ZB.below (by assumption) hb'; clear hb')
    | (go_at_call 92; refine Calls.mono (refNums_any ns _ _ (HHN.out _ (by assumption))) ?_; rintro e w' ⟨rfl, hb'⟩; have hZ' := ZB.below (by assumption) hb'; clear hb')
    | (go_at_call 90; refine Calls.mono (rframe_any _ HBL.out _) ?_; rintro e wf ⟨rfl, hb'⟩; have hZf := ZB.below (by assumption) hb'; clear hb'))
  have HKF := hid hZf.1
  have HBF := hid (HBR.out.trans (hZf.2.1.mono HBR.out.size))
  have hfl : (frame A3).length ≤ 70000 := by rw [frame_length]; have := HBL.out; omega
  rw [HA.out] at *
  generalize hb0 : frame (baseBody ⟨base, bterm, ns.map fun (n : Nat) => (n : Int), l⟩ image.length) = b0 at *
  have HB0 := hid hb0
  clear hb0 HA HBL HCO HHN HH hZf As0 Ab0 An0 Az0 As1 Ab1 An1 Az1 As2 Ab2 An2 Az2 As3 Ab3 An3 Az3 sz0 sz1 sz2 sz3 szn ln0 ln1 ln2 ln3 HBR
  have HCL := hid (chunks_len image.length image (Nat.le_refl _))
  go_wp2_with fail
  go_loopw [5, 6, 7] (fun vo i _ wr => ∃ ds : List Bytes, i = .int .i64 ((4096 * ds.length : Nat) : Int) ∧ vo = .string (str (b0 ++ (ds.map pieceRec).flatten)) ∧ Hid (chunks image = ds ++ chunks (image.drop (4096 * ds.length))) ∧ 4096 * ds.length ≤ image.length + 4096 ∧ Below w.heap.size w wr ∧ wr.heap[k]? = some (.cells #[.int .u64 term, .int .i64 (vote : Int), .int .u64 life, .int .u64 base, .int .u64 bterm, .slice ac ns.length cc, .slice al l.length cl, .string (str image)] 51)) (fun _ i _ _ => image.length + 4096 - (intOf i).toNat)
  case atStart => exact ⟨[], rfl, by simp, rfl, by simp, HBF.out, HKF.out⟩
  case round =>
  obtain ⟨ds, rfl, rfl, HD, hdl, hb1, hkr⟩ := hrel
  have c7 := cell_in hkr 7 (.string (str image)) rfl
  have hbl0 : b0.length ≤ 70000 := hfl
  have hOl : (b0 ++ (ds.map pieceRec).flatten).length ≤ 20000000 := by
    have h2 := flatten_le 70000 (ds.map pieceRec) (fun x hx => by
      obtain ⟨y, hy, rfl⟩ := List.mem_map.1 hx
      have : y ∈ chunks image := by rw [HD.out]; exact List.mem_append.2 (.inl hy)
      exact pieceRec_len y (chunks_le image.length image (Nat.le_refl _) y this))
    rw [List.length_map] at h2
    rw [List.length_append]
    have : ds.length ≤ 65 := by omega
    have : 70000 * ds.length ≤ 70000 * 65 := Nat.mul_le_mul_left _ this
    omega
  obtain ⟨n, hn⟩ : ∃ n, n = 4096 * ds.length := ⟨_, rfl⟩
  replace HD : Hid (chunks image = ds ++ chunks (image.drop n)) := hid (by rw [hn]; exact HD.out)
  rw [← hn] at hdl ⊢
  obtain ⟨O, hO⟩ : ∃ O, O = b0 ++ (ds.map pieceRec).flatten := ⟨_, rfl⟩
  rw [← hO] at hOl ⊢
  by_cases hlt : n < image.length
  · have hp : image.drop n ≠ [] := by
      intro e
      have h2 := congrArg List.length e
      rw [List.length_drop, List.length_nil] at h2
      omega
    obtain ⟨e0, he0⟩ : ∃ e0 : Nat, e0 = n + 4096 := ⟨_, rfl⟩
    have HD2 := hid (show chunks image = (ds ++ [(image.drop n).take 4096]) ++ chunks (image.drop e0) by rw [HD.out, chunks_step hp, List.append_assoc, List.drop_drop, he0]; rfl)
    have hpl : ((image.drop n).take 4096).length ≤ 4096 := by rw [List.length_take]; omega
    have hwr : IntKind.i64.wrap ((n : Int) + 4096) = (e0 : Int) := by rw [IntWalk.i64_in _ (by omega)]; omega
    have hsl := fun (e : Nat) => extract_str (str image) n e
    have hexA : image.length < e0 → (str image).extract n image.length = str ((image.drop n).take 4096) := fun h => by
      rw [extract_str, str_data, List.take_of_length_le (by rw [List.length_drop]; omega), List.take_of_length_le (by rw [List.length_drop]; omega)]
    have hexB : (str image).extract n e0 = str ((image.drop n).take 4096) := by
      rw [extract_str, str_data, show e0 - n = 4096 by omega]
    have HDS := hid (show (b0 ++ ((ds ++ [(image.drop n).take 4096]).map pieceRec).flatten) = O ++ pieceRec ((image.drop n).take 4096) by rw [hO, List.map_append, List.flatten_append, ← List.append_assoc]; simp)
    have HN1 := hid (show 4096 * (ds ++ [(image.drop n).take 4096]).length = e0 by rw [List.length_append, List.length_singleton]; omega)
    have HPR := hid (show pieceRec ((image.drop n).take 4096) = frame (num 2 ++ text ((image.drop n).take 4096)) from rfl)
    generalize (image.drop n).take 4096 = pc at *
    have ln30 := num_len 2
    have ln31 := text_len pc
    have sz30 : (str (num 2)).size = (num 2).length := str_size _
    have sz31 : (str (text pc)).size = (text pc).length := str_size _
    have hzp : (str pc).size = pc.length := str_size _
    have hzo : (str O).size = O.length := str_size _
    generalize Be0 : num 2 ++ text pc = B0 at *
    have Bs0 : str (num 2) ++ str (text pc) = str B0 := by rw [str_append, Be0]
    have Bb0 : B0.length ≤ 5100 := by rw [← Be0, List.length_append]; omega
    have Bn0 : ¬ (9223372036854775807 < (num 2).length + (text pc).length) := by omega
    have Bz0 : (str B0).size = B0.length := str_size _
    have HBL := hid (show B0.length ≤ 65536 by omega)
    have hfr : (frame B0).length ≤ 70000 := by rw [frame_length]; omega
    have szf : (str (frame B0)).size = (frame B0).length := str_size _
    have Cn0 : ¬ (9223372036854775807 < O.length + (frame B0).length) := by omega
    have Cs0 : str O ++ str (frame B0) = str (O ++ frame B0) := str_append _ _
    obtain ⟨O2, hO2⟩ : ∃ O2, O2 = O ++ frame B0 := ⟨_, rfl⟩
    rw [← hO2] at Cs0
    have HO2 := hid hO2
    have HBR := hid hb1
    have HKR := hid hkr
    have hW1 : ZB wr.heap.size k wr (.cells #[.int .u64 term, .int .i64 (vote : Int), .int .u64 life, .int .u64 base, .int .u64 bterm, .slice ac ns.length cc, .slice al l.length cl, .string (str image)] 51) wr.drew := ⟨hkr, (Below.refl _ _).drew, Nat.le_refl _⟩
    have HCO : Hid (∀ W : World, ZB wr.heap.size k wr (.cells #[.int .u64 term, .int .i64 (vote : Int), .int .u64 life, .int .u64 base, .int .u64 bterm, .slice ac ns.length cc, .slice al l.length cl, .string (str image)] 51) W → W.cell? ⟨k, 7, none⟩ = some (.string (str image))) := fun W h => cell_in h.1 7 _ rfl
    have HHN := hid hn
    have HHO := hid hO
    clear Be0 hsl hO2 hb1 hkr HD hp hn hO
    have hlti : (n : Int) < (image.length : Int) := by omega
    have hne0 : (n : Int) ≤ (e0 : Int) := by omega
    have hni : (n : Int) ≤ (image.length : Int) := by omega
    have hn0 : (0 : Int) ≤ (n : Int) := by omega
    have he00 : (0 : Int) ≤ (e0 : Int) := by omega
    have hnn : n ≤ image.length := by omega
    have hnen : n ≤ e0 := by omega
    have HE0 := hid he0
    have he1 : e0 ≤ n + 4096 := by omega
    have he2 : n + 4096 ≤ e0 := by omega
    clear he0
    by_cases hA : image.length < e0
    · have hAi : (image.length : Int) < (e0 : Int) := by omega
      have hex := hexA hA
      clear hexA hexB
      as_aux_lemma =>
      go_wp2_with fail
      go_region_held3 (fun W => W.cell? ⟨k, 7, none⟩ = some (.string (str image))) (exact HCO.out _ (by assumption))
        (first
        | (go_at_call 91; (with_reducible refine Calls.mono (rnumL2 _) ?_); rintro e w' ⟨rfl, hb'⟩; have hZ' := ZB.below (by assumption) hb'; clear hb')
        | (go_at_call 93; refine Calls.mono (refText_any pc (by omega) _) ?_; rintro e w' ⟨rfl, hb'⟩; have hZ' := ZB.below (by assumption) hb'; clear hb')
        | (go_at_call 90; refine Calls.mono (rframe_any _ HBL.out _) ?_; rintro e wf ⟨rfl, hb'⟩; have hZf := ZB.below (by assumption) hb'; clear hb'))
      go_wp2_with fail
      go_roundw
      case rel => exact ⟨ds ++ [pc], by rw [HN1.out], by rw [HDS.out, HPR.out, HO2.out], hid (by rw [HN1.out]; exact HD2.out), by rw [HN1.out]; omega, HBR.out.trans (hZf.2.1.mono HBR.out.size), hZf.1⟩
      case measure => simp [intOf]; omega
    · have hAi : ¬ ((image.length : Int) < (e0 : Int)) := by omega
      have hex := hexB
      have hei : (e0 : Int) ≤ (image.length : Int) := by omega
      have hein : e0 ≤ image.length := by omega
      clear hexA hexB
      as_aux_lemma =>
      go_wp2_with fail
      go_region_held3 (fun W => W.cell? ⟨k, 7, none⟩ = some (.string (str image))) (exact HCO.out _ (by assumption))
        (first
        | (go_at_call 91; (with_reducible refine Calls.mono (rnumL2 _) ?_); rintro e w' ⟨rfl, hb'⟩; have hZ' := ZB.below (by assumption) hb'; clear hb')
        | (go_at_call 93; refine Calls.mono (refText_any pc (by omega) _) ?_; rintro e w' ⟨rfl, hb'⟩; have hZ' := ZB.below (by assumption) hb'; clear hb')
        | (go_at_call 90; refine Calls.mono (rframe_any _ HBL.out _) ?_; rintro e wf ⟨rfl, hb'⟩; have hZf := ZB.below (by assumption) hb'; clear hb'))
      go_wp2_with fail
      go_roundw
      case rel => exact ⟨ds ++ [pc], by rw [HN1.out], by rw [HDS.out, HPR.out, HO2.out], hid (by rw [HN1.out]; exact HD2.out), by rw [HN1.out]; omega, HBR.out.trans (hZf.2.1.mono HBR.out.size), hZf.1⟩
      case measure => simp [intOf]; omega
  have hD : chunks image = ds := by have := HD.out; rw [List.drop_of_length_le (by omega), chunks_nil, List.append_nil] at this; exact this
  have HO1 := hid (show O = b0 ++ ((chunks image).map pieceRec).flatten by rw [hO, hD])
  have hzo : (str O).size = O.length := str_size _
  have hli : ¬ ((n : Int) < (image.length : Int)) := by omega
  have c0 := cell_in hkr 0 (.int .u64 term) rfl
  have c1 := cell_in hkr 1 (.int .i64 (vote : Int)) rfl
  have c2 := cell_in hkr 2 (.int .u64 life) rfl
  have HKR := hid hkr
  have HBR := hid hb1
  clear hD hO HD hdl hn hlt hkr hb1
  as_aux_lemma =>
  go_wp2_with fail
  refine Calls.mono (rhard_at term vote life ht hv hlf _) ?_
  rintro e w6 ⟨rfl, hb6⟩
  have HK6 := hid (blk_below HKR.out hb6)
  have HB6 := hid (HBR.out.trans (hb6.mono HBR.out.size))
  have HHR := hid (show frame (num 3 ++ num term ++ num vote ++ num life) = hardRec ⟨term, (vote : Int), life⟩ by unfold hardRec hardBody; simp)
  have hhl := hardRec_len ⟨term, (vote : Int), life⟩
  rw [HHR.out]
  generalize hhr : hardRec ⟨term, (vote : Int), life⟩ = hr at *
  have HHR2 := hid hhr
  have szh : (str hr).size = hr.length := str_size _
  have Dn0 : ¬ (9223372036854775807 < O.length + hr.length) := by omega
  have Ds0 : str O ++ str hr = str (O ++ hr) := str_append _ _
  obtain ⟨O1, hO1⟩ : ∃ O1, O1 = O ++ hr := ⟨_, rfl⟩
  rw [← hO1] at Ds0
  have HO2 := hid hO1
  have hO1l : O1.length ≤ 20070000 := by rw [hO1, List.length_append]; omega
  clear hb6 HKR HBR HHR hhr c0 c1 c2 c7 hO1
  go_wp2_with fail
  go_loopw [5, 8] (fun vo i wr => ∃ j : Nat, i = .int .i64 j ∧ j ≤ l.length ∧ vo = .string (str (O1 ++ (entRecs (base + 1) (l.take j)).flatten)) ∧ Below w.heap.size w wr ∧ wr.heap[k]? = some (.cells #[.int .u64 term, .int .i64 (vote : Int), .int .u64 life, .int .u64 base, .int .u64 bterm, .slice ac ns.length cc, .slice al l.length cl, .string (str image)] 51)) (fun _ i _ => l.length - (intOf i).toNat)
  case atStart => exact ⟨0, rfl, Nat.zero_le _, by simp [entRecs], HB6.out, HK6.out⟩
  case round =>
  obtain ⟨j, rfl, hj, rfl, hb1, hkr⟩ := hrel
  have c6 := cell_in hkr 6 (.slice al l.length cl) rfl
  have hOl2 : (O1 ++ (entRecs (base + 1) (l.take j)).flatten).length ≤ 20070000 + 70000 * 1000000 := by
    have h2 := flatten_le 70000 (entRecs (base + 1) (l.take j)) (entRecs_le _ _ (fun e he => mayEn_data (HLE.out e (List.mem_of_mem_take he)).2))
    have h3 : (entRecs (base + 1) (l.take j)).length = (l.take j).length := entRecs_len _ _
    rw [h3, List.length_take] at h2
    have : 70000 * min j l.length ≤ 70000 * 1000000 := Nat.mul_le_mul_left _ (by omega)
    rw [List.length_append]
    omega
  by_cases hlt : j < l.length
  · as_aux_lemma =>
    obtain ⟨b, off, rfl, hcell⟩ := HL.out (by rw [enVals_len]; omega)
    have hx0 := hcell wr hb1 _ _ (enVals_at l j hlt).1
    have hx1 := hcell wr hb1 _ _ (enVals_at l j hlt).2.1
    have hx2 := hcell wr hb1 _ _ (enVals_at l j hlt).2.2
    have HLB : Hid (∀ W' : World, Below wr.heap.size wr W' → W'.cell? ⟨b, off + j * 3, none⟩ = some (.int .u64 l[j].term) ∧ W'.cell? ⟨b, off + j * 3 + 1, none⟩ = some (.int .i64 l[j].kind) ∧ W'.cell? ⟨b, off + j * 3 + 2, none⟩ = some (.string (str l[j].data))) := hid (fun W' hb => by
      have hl := World.block_lt_of_cell? _ _ hx0
      exact ⟨(hb.cell (p := ⟨b, off + j * 3, none⟩) hl).trans hx0, (hb.cell (p := ⟨b, off + j * 3 + 1, none⟩) hl).trans (by rw [show off + j * 3 + 1 = off + (j * 3 + 1) by omega]; exact hx1), (hb.cell (p := ⟨b, off + j * 3 + 2, none⟩) hl).trans (by rw [show off + j * 3 + 2 = off + (j * 3 + 2) by omega]; exact hx2)⟩)
    have HTK := hid (show O1 ++ (entRecs (base + 1) (l.take (j + 1))).flatten = (O1 ++ (entRecs (base + 1) (l.take j)).flatten) ++ entRec (base + 1 + j) l[j] by
      rw [List.take_succ_eq_append_getElem hlt, entRecs_snoc, List.length_take, Nat.min_eq_left (by omega), List.flatten_append, List.append_assoc]
      simp)
    obtain ⟨hte1, hme1⟩ := HLE.out _ (List.getElem_mem hlt)
    have HEA := hid (fun W => rent_any (base + 1 + j) l[j] (by unfold top64; omega) hte1 hme1 W)
    have hel := entRec_len (base + 1 + j) l[j] (mayEn_data hme1)
    clear hcell hte1 hme1 hx0 hx1 hx2
    generalize l[j] = e at *
    generalize O1 ++ (entRecs (base + 1) (l.take j)).flatten = A at *
    generalize entRec (base + 1 + j) e = er at *
    have sza : (str A).size = A.length := str_size _
    have sze : (str er).size = er.length := str_size _
    have En0 : ¬ (9223372036854775807 < A.length + er.length) := by omega
    have Es0 : str A ++ str er = str (A ++ er) := str_append _ _
    obtain ⟨i1, hi1⟩ : ∃ i1 : Nat, i1 = base + 1 + j := ⟨_, rfl⟩
    obtain ⟨i2, hi2⟩ : ∃ i2 : Nat, i2 = base + 1 := ⟨_, rfl⟩
    rw [← hi1] at HEA
    have hwa : IntKind.u64.wrap ((base : Int) + 1) = (i2 : Int) := by rw [IntKind.wrap_u64]; omega
    have hwj : IntKind.u64.wrap (j : Int) = (j : Int) := by rw [IntKind.wrap_u64]; omega
    have hwb : IntKind.u64.wrap ((i2 : Int) + (j : Int)) = (i1 : Int) := by rw [IntKind.wrap_u64]; omega
    have HKR := hid hkr
    have HBR := hid hb1
    have hW1 : ZB wr.heap.size k wr (.cells #[.int .u64 term, .int .i64 (vote : Int), .int .u64 life, .int .u64 base, .int .u64 bterm, .slice ac ns.length cc, .slice (some ⟨b, off, none⟩) l.length cl, .string (str image)] 51) wr.drew := ⟨hkr, (Below.refl _ _).drew, Nat.le_refl _⟩
    have HCO : Hid (∀ W : World, ZB wr.heap.size k wr (.cells #[.int .u64 term, .int .i64 (vote : Int), .int .u64 life, .int .u64 base, .int .u64 bterm, .slice ac ns.length cc, .slice (some ⟨b, off, none⟩) l.length cl, .string (str image)] 51) W → W.cell? ⟨k, 3, none⟩ = some (.int .u64 base) ∧ W.cell? ⟨k, 6, none⟩ = some (.slice (some ⟨b, off, none⟩) l.length cl) ∧ W.cell? ⟨b, off + j * 3, none⟩ = some (.int .u64 e.term) ∧ W.cell? ⟨b, off + j * 3 + 1, none⟩ = some (.int .i64 e.kind) ∧ W.cell? ⟨b, off + j * 3 + 2, none⟩ = some (.string (str e.data))) := fun W h => ⟨cell_in h.1 3 _ rfl, cell_in h.1 6 _ rfl, HLB.out W h.2.1⟩
    clear hi1 hi2 hkr hb1 HLB
    go_wp2_with fail
    go_region_held3 (fun W => W.cell? ⟨k, 3, none⟩ = some (.int .u64 base) ∧ W.cell? ⟨k, 6, none⟩ = some (.slice (some ⟨b, off, none⟩) l.length cl) ∧ W.cell? ⟨b, off + j * 3, none⟩ = some (.int .u64 e.term) ∧ W.cell? ⟨b, off + j * 3 + 1, none⟩ = some (.int .i64 e.kind) ∧ W.cell? ⟨b, off + j * 3 + 2, none⟩ = some (.string (str e.data))) (exact HCO.out _ (by assumption))
      ((go_at_call 94; refine Calls.mono (HEA.out _) ?_; rintro x wf ⟨rfl, hb'⟩; have hZf := ZB.below (by assumption) hb'; clear hb'))
    go_wp2_with fail
    go_roundw
    case rel => exact ⟨j + 1, by go_num, by omega, by rw [HTK.out], HBR.out.trans (hZf.2.1.mono HBR.out.size), hZf.1⟩
    case measure => simp [intOf]; omega
  obtain rfl : j = l.length := by omega
  have HF := hid (show fileB S = O1 ++ (entRecs (base + 1) l).flatten by
    rw [hS.out, HO2.out, HO1.out, ← HHR2.out, ← HB0.out]
    unfold fileB fileL
    simp)
  have HBR := hid hb1
  rw [List.take_length] at *
  clear hb1 hkr
  go_wp2_with fail
  go_ret
  rw [HF.out]
  exact ⟨rfl, HBR.out⟩
end Go.Proofs.YtmehcogaopackaaGreat
