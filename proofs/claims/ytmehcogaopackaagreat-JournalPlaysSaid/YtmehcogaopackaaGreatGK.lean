/-
  The walks of the reference's May, Members, Last. (Several texts in one.)
-/
import Derived.Deep.QuietTactic
import Derived.BigQuiet
import Derived.Test.YtmehcogaopackaaGreatGE
import Derived.Test.YtmehcogaopackaaGreatGH
import Derived.Test.YtmehcogaopackaaGreatGA
import Derived.Test.YtmehcogaopackaaGreatGJ
import Derived.Test.YtmehcogaopackaaGreatGF
/- The reference's records: frame, num, HardRecord, EntryRecord, May, Last. -/
namespace Go.Proofs.YtmehcogaopackaaGreat
open Go.RowKit
set_option linter.unusedVariables false
set_option linter.unusedSimpArgs false
theorem rframe_any (u : Bytes) (hu : u.length ≤ 65536) (w : World) :
    Calls Tryz.prog 90 #[.string (str u)] w fun e w' => e = .returned (.string (str (frame u))) ∧ Below w.heap.size w w' := by
  have H := hid (show Calls Tryz.prog 117 #[.string (str u)] w fun x w' => x = .returned (.tuple #[.string (str (frame u)), .int .i64 (0 : Nat)]) ∧ Below w.heap.size w w' by
    have h := refFrame_any (str u) w (by rw [str_size]; unfold maxLen; omega)
    rw [show (str u).data.toList = u from rfl, show frameOf u = (frame u, 0) by unfold frameOf; rw [if_neg (by omega)]] at h
    exact h)
  go_enter Tryz.func90, Tryz.ntmps90
  go_wp2_with fail
  refine Calls.mono H.out ?_
  rintro e w1 ⟨rfl, hb1⟩
  go_wp2_with fail
  go_ret
  exact ⟨rfl, hb1⟩
theorem znum_any (N : Nat) (hN : N < top64) (w : World) :
    Calls Tryz.prog 91 #[.int .u64 N] w fun e w' => e = .returned (.string (str (num N))) ∧ Below w.heap.size w w' := by
  have H := hid (refNum_any N hN w)
  go_enter Tryz.func91, Tryz.ntmps91
  go_wp2_with fail
  refine Calls.mono H.out ?_
  rintro e w1 ⟨rfl, hb1⟩
  go_wp2_with fail
  go_ret
  exact ⟨rfl, hb1⟩
theorem rnumL1 (w : World) : Calls Tryz.prog 91 #[.int .u64 1] w fun e w' => e = .returned (.string (str (num 1))) ∧ Below w.heap.size w w' := znum_any 1 (by decide) w
theorem rnumL2 (w : World) : Calls Tryz.prog 91 #[.int .u64 2] w fun e w' => e = .returned (.string (str (num 2))) ∧ Below w.heap.size w w' := znum_any 2 (by decide) w
theorem rnumL3 (w : World) : Calls Tryz.prog 91 #[.int .u64 3] w fun e w' => e = .returned (.string (str (num 3))) ∧ Below w.heap.size w w' := znum_any 3 (by decide) w
theorem rnumL4 (w : World) : Calls Tryz.prog 91 #[.int .u64 4] w fun e w' => e = .returned (.string (str (num 4))) ∧ Below w.heap.size w w' := znum_any 4 (by decide) w
set_option maxRecDepth 100000 in
set_option maxHeartbeats 4000000 in
theorem rhard_at (term vote life : Nat) (ht : term < top64) (hv : vote < 1000) (hl : life < top64) (w : World) :
    Calls Tryz.prog 53 #[.agg #[.int .u64 term, .int .i64 (vote : Int), .int .u64 life]] w fun e w' => e = .returned (.string (str (frame (num 3 ++ num term ++ num vote ++ num life)))) ∧ Below w.heap.size w w' := by
  have hw1 : IntKind.u64.wrap (vote : Int) = (vote : Int) := by rw [IntKind.wrap_u64]; omega
  have hv2 : vote < top64 := by unfold top64; omega
  have HB0 : Hid (Below w.heap.size w (w.alloc (.cells #[.int .u64 term, .int .i64 (vote : Int), .int .u64 life] 45))) := (Below.refl _ _).alloc (Nat.le_refl _) _
  have HK := hid (heap_alloc_new w (.cells #[.int .u64 term, .int .i64 (vote : Int), .int .u64 life] 45))
  have ln0 : (num 3).length ≤ 10 := num_len _
  have ln1 : (num term).length ≤ 10 := num_len _
  have ln2 : (num vote).length ≤ 10 := num_len _
  have ln3 : (num life).length ≤ 10 := num_len _
  have sz0 : (str (num 3)).size = (num 3).length := str_size _
  have sz1 : (str (num term)).size = (num term).length := str_size _
  have sz2 : (str (num vote)).size = (num vote).length := str_size _
  have sz3 : (str (num life)).size = (num life).length := str_size _
  generalize Ae0 : num 3 ++ num term = A0 at *
  have As0 : str (num 3) ++ str (num term) = str A0 := by rw [str_append, Ae0]
  have Ab0 : A0.length ≤ 5100 := by rw [← Ae0, List.length_append]; omega
  have An0 : ¬ (9223372036854775807 < (num 3).length + (num term).length) := by omega
  have Az0 : (str A0).size = A0.length := str_size _
  generalize Ae1 : A0 ++ num vote = A1 at *
  have As1 : str (A0) ++ str (num vote) = str A1 := by rw [str_append, Ae1]
  have Ab1 : A1.length ≤ 10100 := by rw [← Ae1, List.length_append]; omega
  have An1 : ¬ (9223372036854775807 < (A0).length + (num vote).length) := by omega
  have Az1 : (str A1).size = A1.length := str_size _
  generalize Ae2 : A1 ++ num life = A2 at *
  have As2 : str (A1) ++ str (num life) = str A2 := by rw [str_append, Ae2]
  have Ab2 : A2.length ≤ 15100 := by rw [← Ae2, List.length_append]; omega
  have An2 : ¬ (9223372036854775807 < (A1).length + (num life).length) := by omega
  have Az2 : (str A2).size = A2.length := str_size _
  have HBL := hid (show A2.length ≤ 65536 by omega)
  clear Ae0 Ae1 Ae2
  go_enter Tryz.func53, Tryz.ntmps53
  go_wp2_with fail
  generalize hke : w.heap.size = k at HK ⊢
  clear hke
  have hZ1 : ZB w.heap.size k w (.cells #[.int .u64 term, .int .i64 (vote : Int), .int .u64 life] 45) (w.alloc (.cells #[.int .u64 term, .int .i64 (vote : Int), .int .u64 life] 45)).drew := ⟨HK.out, HB0.out.drew, HB0.out.size⟩
  clear HK HB0
  generalize w.alloc (.cells #[.int .u64 term, .int .i64 (vote : Int), .int .u64 life] 45) = W0 at hZ1 ⊢
  have HCO : Hid (∀ W : World, ZB w.heap.size k w (.cells #[.int .u64 term, .int .i64 (vote : Int), .int .u64 life] 45) W → W.cell? ⟨k, 0, none⟩ = some (.int .u64 term) ∧ W.cell? ⟨k, 1, none⟩ = some (.int .i64 (vote : Int)) ∧ W.cell? ⟨k, 2, none⟩ = some (.int .u64 life)) := fun W h0 => by have h := h0.1; exact ⟨cell_in h 0 _ rfl, cell_in h 1 _ rfl, cell_in h 2 _ rfl⟩
  go_region_held3 (fun W => W.cell? ⟨k, 0, none⟩ = some (.int .u64 term) ∧ W.cell? ⟨k, 1, none⟩ = some (.int .i64 (vote : Int)) ∧ W.cell? ⟨k, 2, none⟩ = some (.int .u64 life)) (first | exact HCO.out _ (by assumption))
    (first
    | (go_at_call 91; (with_reducible refine Calls.mono (rnumL3 _) ?_); rintro e w' ⟨rfl, hb'⟩; have hZ' := ZB.below (by assumption) hb'; clear hb')
    | (go_at_call 91; (with_reducible refine Calls.mono (znum_any _ (by first | assumption | (unfold top64; omega)) _) ?_); rintro e w' ⟨rfl, hb'⟩; have hZ' := ZB.below (by assumption) hb'; clear hb')
    | (go_at_call 93; refine Calls.mono (refText_any _ (by omega) _) ?_; rintro e w' ⟨rfl, hb'⟩; have hZ' := ZB.below (by assumption) hb'; clear hb')
    | (go_at_call 90; refine Calls.mono (rframe_any _ HBL.out _) ?_; rintro e w' ⟨rfl, hb'⟩; have hZ' := ZB.below (by assumption) hb'; clear hb'))
  have hZE := hZ'
  go_wp2_with fail
  go_ret
  exact ⟨rfl, hZE.2.1⟩
set_option maxRecDepth 100000 in
set_option maxHeartbeats 4000000 in
theorem rent_at (i term kind : Nat) (data : Bytes) (hi : i < top64) (ht : term < top64) (hk : kind < 1000) (hd : data.length ≤ 4000) (w : World) :
    Calls Tryz.prog 94 #[.int .u64 i, .agg #[.int .u64 term, .int .i64 (kind : Int), .string (str data)]] w fun e w' => e = .returned (.string (str (frame (num 4 ++ num i ++ num term ++ num kind ++ text data)))) ∧ Below w.heap.size w w' := by
  have hw1 : IntKind.u64.wrap (kind : Int) = (kind : Int) := by rw [IntKind.wrap_u64]; omega
  have hk2 : kind < top64 := by unfold top64; omega
  have l6 := text_len data
  have HB0 : Hid (Below w.heap.size w (w.alloc (.cells #[.int .u64 term, .int .i64 (kind : Int), .string (str data)] 116))) := (Below.refl _ _).alloc (Nat.le_refl _) _
  have HK := hid (heap_alloc_new w (.cells #[.int .u64 term, .int .i64 (kind : Int), .string (str data)] 116))
  have ln0 : (num 4).length ≤ 10 := num_len _
  have ln1 : (num i).length ≤ 10 := num_len _
  have ln2 : (num term).length ≤ 10 := num_len _
  have ln3 : (num kind).length ≤ 10 := num_len _
  have sz0 : (str (num 4)).size = (num 4).length := str_size _
  have sz1 : (str (num i)).size = (num i).length := str_size _
  have sz2 : (str (num term)).size = (num term).length := str_size _
  have sz3 : (str (num kind)).size = (num kind).length := str_size _
  have sz4 : (str (text data)).size = (text data).length := str_size _
  generalize Ae0 : num 4 ++ num i = A0 at *
  have As0 : str (num 4) ++ str (num i) = str A0 := by rw [str_append, Ae0]
  have Ab0 : A0.length ≤ 5100 := by rw [← Ae0, List.length_append]; omega
  have An0 : ¬ (9223372036854775807 < (num 4).length + (num i).length) := by omega
  have Az0 : (str A0).size = A0.length := str_size _
  generalize Ae1 : A0 ++ num term = A1 at *
  have As1 : str (A0) ++ str (num term) = str A1 := by rw [str_append, Ae1]
  have Ab1 : A1.length ≤ 10100 := by rw [← Ae1, List.length_append]; omega
  have An1 : ¬ (9223372036854775807 < (A0).length + (num term).length) := by omega
  have Az1 : (str A1).size = A1.length := str_size _
  generalize Ae2 : A1 ++ num kind = A2 at *
  have As2 : str (A1) ++ str (num kind) = str A2 := by rw [str_append, Ae2]
  have Ab2 : A2.length ≤ 15100 := by rw [← Ae2, List.length_append]; omega
  have An2 : ¬ (9223372036854775807 < (A1).length + (num kind).length) := by omega
  have Az2 : (str A2).size = A2.length := str_size _
  generalize Ae3 : A2 ++ text data = A3 at *
  have As3 : str (A2) ++ str (text data) = str A3 := by rw [str_append, Ae3]
  have Ab3 : A3.length ≤ 20100 := by rw [← Ae3, List.length_append]; omega
  have An3 : ¬ (9223372036854775807 < (A2).length + (text data).length) := by omega
  have Az3 : (str A3).size = A3.length := str_size _
  have HBL := hid (show A3.length ≤ 65536 by omega)
  clear Ae0 Ae1 Ae2 Ae3
  go_enter Tryz.func94, Tryz.ntmps94
  go_wp2_with fail
  generalize hke : w.heap.size = k at HK ⊢
  clear hke
  have hZ1 : ZB w.heap.size k w (.cells #[.int .u64 term, .int .i64 (kind : Int), .string (str data)] 116) (w.alloc (.cells #[.int .u64 term, .int .i64 (kind : Int), .string (str data)] 116)).drew := ⟨HK.out, HB0.out.drew, HB0.out.size⟩
  clear HK HB0
  generalize w.alloc (.cells #[.int .u64 term, .int .i64 (kind : Int), .string (str data)] 116) = W0 at hZ1 ⊢
  have HCO : Hid (∀ W : World, ZB w.heap.size k w (.cells #[.int .u64 term, .int .i64 (kind : Int), .string (str data)] 116) W → W.cell? ⟨k, 0, none⟩ = some (.int .u64 term) ∧ W.cell? ⟨k, 1, none⟩ = some (.int .i64 (kind : Int)) ∧ W.cell? ⟨k, 2, none⟩ = some (.string (str data))) := fun W h0 => by have h := h0.1; exact ⟨cell_in h 0 _ rfl, cell_in h 1 _ rfl, cell_in h 2 _ rfl⟩
  go_region_held3 (fun W => W.cell? ⟨k, 0, none⟩ = some (.int .u64 term) ∧ W.cell? ⟨k, 1, none⟩ = some (.int .i64 (kind : Int)) ∧ W.cell? ⟨k, 2, none⟩ = some (.string (str data))) (first | exact HCO.out _ (by assumption))
    (first
    | (go_at_call 91; (with_reducible refine Calls.mono (rnumL4 _) ?_); rintro e w' ⟨rfl, hb'⟩; have hZ' := ZB.below (by assumption) hb'; clear hb')
    | (go_at_call 91; (with_reducible refine Calls.mono (znum_any _ (by first | assumption | (unfold top64; omega)) _) ?_); rintro e w' ⟨rfl, hb'⟩; have hZ' := ZB.below (by assumption) hb'; clear hb')
    | (go_at_call 93; refine Calls.mono (refText_any _ (by omega) _) ?_; rintro e w' ⟨rfl, hb'⟩; have hZ' := ZB.below (by assumption) hb'; clear hb')
    | (go_at_call 90; refine Calls.mono (rframe_any _ HBL.out _) ?_; rintro e w' ⟨rfl, hb'⟩; have hZ' := ZB.below (by assumption) hb'; clear hb'))
  have hZE := hZ'
  go_wp2_with fail
  go_ret
  exact ⟨rfl, hZE.2.1⟩
theorem rhard_any (h : Hd) (ht : h.term < top64) (hv : 0 ≤ h.vote ∧ h.vote < 1000) (hl : h.life < top64) (w : World) :
    Calls Tryz.prog 53 #[.agg #[.int .u64 h.term, .int .i64 h.vote, .int .u64 h.life]] w fun e w' => e = .returned (.string (str (hardRec h))) ∧ Below w.heap.size w w' := by
  obtain ⟨t, v, l⟩ := h
  obtain ⟨n, rfl⟩ := Int.eq_ofNat_of_zero_le hv.1
  exact rhard_at t n l ht (by simp only at hv; omega) hl w
theorem rent_any (i : Nat) (e : En) (hi : i < top64) (ht : e.term < top64) (hm : mayEn e = true) (w : World) :
    Calls Tryz.prog 94 #[.int .u64 i, .agg #[.int .u64 e.term, .int .i64 e.kind, .string (str e.data)]] w fun x w' => x = .returned (.string (str (entRec i e))) ∧ Below w.heap.size w w' := by
  obtain ⟨t, v, d⟩ := e
  unfold mayEn at hm
  simp only [Bool.and_eq_true, decide_eq_true_eq] at hm
  obtain ⟨n, rfl⟩ := Int.eq_ofNat_of_zero_le (a := v) (by omega)
  exact rent_at i t n d hi ht (by omega) (by omega) w
end Go.Proofs.YtmehcogaopackaaGreat
/- The walks of the reference's May, Members, Last. -/
namespace Go.Proofs.YtmehcogaopackaaGreat
open Go.RowKit
set_option linter.unusedVariables false
set_option linter.unusedSimpArgs false
theorem rmay_en (e : En) (hd : e.data.length ≤ maxLen) (w : World) :
    Calls Tryz.prog 102 #[.agg #[.int .u64 e.term, .int .i64 e.kind, .string (str e.data)]] w fun x w' => x = .returned (.bool (mayEn e)) ∧ Below w.heap.size w w' := by
  obtain ⟨t, k, d⟩ := e
  have hz : (str d).size = d.length := str_size _
  unfold maxLen at hd
  have HM := hid (show mayEn ⟨t, k, d⟩ = (decide (1 ≤ k) && (decide (k ≤ 3) && decide (d.length ≤ 2048))) from rfl)
  simp only at hd ⊢
  generalize mayEn ⟨t, k, d⟩ = m at HM ⊢
  by_cases h1 : 1 ≤ k
  · by_cases h2 : k ≤ 3
    · by_cases h3 : d.length ≤ 2048
      · have h3' : (d.length : Int) ≤ 2048 := by omega
        go_enter Tryz.func102, Tryz.ntmps102
        go_wp2_with fail
        go_ret
        rw [HM.out]
        exact ⟨by simp [h1, h2, h3], (Below.refl _ _).alloc (Nat.le_refl _) _⟩
      · have h3' : ¬ (d.length : Int) ≤ 2048 := by omega
        go_enter Tryz.func102, Tryz.ntmps102
        go_wp2_with fail
        go_ret
        rw [HM.out]
        exact ⟨by simp [h1, h2, h3], (Below.refl _ _).alloc (Nat.le_refl _) _⟩
    · go_enter Tryz.func102, Tryz.ntmps102
      go_wp2_with fail
      go_ret
      rw [HM.out]
      exact ⟨by rw [decide_eq_true h1, decide_eq_false (show ¬ k ≤ 3 by omega)]; rfl, (Below.refl _ _).alloc (Nat.le_refl _) _⟩
  · go_enter Tryz.func102, Tryz.ntmps102
    go_wp2_with fail
    go_ret
    rw [HM.out]
    exact ⟨by rw [decide_eq_false (show ¬ 1 ≤ k by omega)]; rfl, (Below.refl _ _).alloc (Nat.le_refl _) _⟩
set_option maxHeartbeats 4000000 in
theorem rmembers_any (l : List Int) (v : Value) (D : List Nat) (w : World) (hv : Cells D w v l.length (intVals l)) (hn : l.length ≤ 1152921504606846976) :
    Calls Tryz.prog 101 #[v] w fun x w' => x = .returned (.bool (members l)) ∧ Below w.heap.size w w' := by
  obtain ⟨a, cap, rfl⟩ := hv.form
  obtain ⟨_, hcap, hcell⟩ := hv.at
  have HX := hid hcell
  clear hcell hv
  go_enter Tryz.func101, Tryz.ntmps101
  go_wp2_with fail
  go_loopw [3] (fun i wr => ∃ k : Nat, i = .int .i64 k ∧ k ≤ l.length ∧ Below w.heap.size w wr ∧ Hid (members l = membersF (pvOf l k) (l.drop k))) (fun i _ => l.length - (intOf i).toNat)
  case atStart => exact ⟨0, rfl, Nat.zero_le _, Below.refl _ _, rfl⟩
  case round =>
    obtain ⟨k, rfl, hk, hb, HR⟩ := hrel
    have HB : Hid (Below w.heap.size w wr) := hid hb
    by_cases hlt : k < l.length
    · obtain ⟨b, off, rfl, hcell⟩ := HX.out (by rw [intVals_len]; omega)
      have hx := hcell wr hb _ _ (intVals_at l k hlt)
      have HR1 := hid (show members l = (decide (1 ≤ l[k]) && (decide (l[k] ≤ 5) && ((match pvOf l k with | none => true | some p => decide (p < l[k])) && membersF (some l[k]) (l.drop (k + 1))))) by rw [HR.out, List.drop_eq_getElem_cons hlt]; rfl)
      have HP := hid (show pvOf l (k + 1) = some l[k] by unfold pvOf; rw [if_neg (by omega), Nat.add_sub_cancel, List.getElem?_eq_getElem hlt])
      clear HR
      by_cases h1 : 1 ≤ l[k]
      · by_cases h2 : l[k] ≤ 5
        · cases k with
          | zero =>
            clear hcell hb
            rw [Nat.add_zero] at hx
            have HR2 := hid (show members l = membersF (pvOf l (0 + 1)) (l.drop (0 + 1)) by rw [HR1.out, HP.out]; simp [h1, h2, pvOf])
            clear HR1 HP
            generalize l[0] = n at *
            have g1 : decide (n < 1) = false := by simp; omega
            have g2 : decide (5 < n) = false := by simp; omega
            clear h1 h2
            go_wp2_with fail
            go_quiet (fail)
            go_wp2_with fail
            go_roundw
            case rel => exact ⟨0 + 1, by go_num, by omega, below_drewN HB.out _, HR2.out⟩
            case measure => simp [intOf]; omega
          | succ m =>
            have hlm : m < l.length := by omega
            have hp := hcell wr hb _ _ (intVals_at l m hlm)
            have HV := hid (show pvOf l (m + 1) = some l[m] by unfold pvOf; rw [if_neg (by omega), Nat.add_sub_cancel, List.getElem?_eq_getElem hlm])
            clear hcell hb
            rw [HV.out] at HR1
            by_cases h3 : l[m] < l[m + 1]
            · have HR2 := hid (show members l = membersF (pvOf l (m + 1 + 1)) (l.drop (m + 1 + 1)) by rw [HR1.out, HP.out]; simp [h1, h2, h3])
              clear HR1 HP HV
              generalize l[m + 1] = n at *
              generalize l[m] = n0 at *
              have g1 : decide (n < 1) = false := by simp; omega
              have g2 : decide (5 < n) = false := by simp; omega
              have g3 : decide (n ≤ n0) = false := by simp; omega
              have g4 : decide ((0 : Int) < (m : Int) + 1) = true := decide_eq_true (by omega)
              clear h1 h2 h3
              go_wp2_with fail
              go_quiet (fail)
              go_wp2_with fail
              go_roundw
              case rel => exact ⟨m + 1 + 1, by go_num, by omega, below_drewN HB.out _, HR2.out⟩
              case measure => simp [intOf]; omega
            · have HR2 := hid (show members l = false by rw [HR1.out]; simp [h1, h2, h3])
              clear HR1 HP HV
              generalize l[m + 1] = n at *
              generalize l[m] = n0 at *
              have h3' : n ≤ n0 := by omega
              have g1 : decide (n < 1) = false := by simp; omega
              have g2 : decide (5 < n) = false := by simp; omega
              have g4 : decide ((0 : Int) < (m : Int) + 1) = true := decide_eq_true (by omega)
              clear h1 h2 h3
              go_wp2_with fail
              go_quiet (fail)
              go_wp2_with fail
              go_ret
              rw [HR2.out]
              exact ⟨rfl, below_drewN HB.out _⟩
        · have HR2 := hid (show members l = false by rw [HR1.out]; simp [h1, h2])
          clear HR1 HP hcell hb
          generalize l[k] = n at *
          have h2' : 5 < n := by omega
          have g1 : decide (n < 1) = false := by simp; omega
          clear h1 h2
          go_wp2_with fail
          go_quiet (fail)
          go_wp2_with fail
          go_ret
          rw [HR2.out]
          exact ⟨rfl, below_drewN HB.out _⟩
      · have HR2 := hid (show members l = false by rw [HR1.out]; simp [h1])
        clear HR1 HP hcell hb
        generalize l[k] = n at *
        have h1' : n < 1 := by omega
        go_wp2_with fail
        go_quiet (fail)
        go_wp2_with fail
        go_ret
        rw [HR2.out]
        exact ⟨rfl, below_drewN HB.out _⟩
    · obtain rfl : k = l.length := by omega
      have HR2 := hid (show members l = true by rw [HR.out, List.drop_length]; rfl)
      clear HR hb
      go_wp2_with fail
      go_ret
      rw [HR2.out]
      exact ⟨rfl, HB.out⟩
theorem rlast_any (base bterm : Nat) (vc : Value) (a : Option Addr) (n cap : Nat) (w : World) (hb : base + n < 18446744073709551616) (hn : n ≤ 9223372036854775807) :
    Calls Tryz.prog 124 #[.agg #[.int .u64 base, .int .u64 bterm, vc, .slice a n cap]] w fun x w' => x = .returned (.int .u64 ((base + n : Nat) : Int)) ∧ Below w.heap.size w w' := by
  have hw1 : IntKind.u64.wrap (n : Int) = (n : Int) := by rw [IntKind.wrap_u64]; omega
  have hw2 : IntKind.u64.wrap ((base : Int) + (n : Int)) = ((base + n : Nat) : Int) := by rw [IntKind.wrap_u64]; omega
  go_enter Tryz.func124, Tryz.ntmps124
  go_wp2_with fail
  go_ret
  exact ⟨rfl, (Below.refl _ _).alloc (Nat.le_refl _) _⟩
end Go.Proofs.YtmehcogaopackaaGreat
