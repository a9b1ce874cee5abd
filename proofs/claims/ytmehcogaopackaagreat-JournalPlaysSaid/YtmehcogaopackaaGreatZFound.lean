/-
  The walk of the reference's Found.
-/
import Derived.Test.YtmehcogaopackaaGreatZRead
import Derived.Test.YtmehcogaopackaaGreatGO
import Derived.Test.YtmehcogaopackaaGreatJOpen2
import Derived.Test.YtmehcogaopackaaGreatZApp
namespace Go.Proofs.YtmehcogaopackaaGreat
open Go.RowKit
set_option linter.unusedVariables false
set_option linter.unusedSimpArgs false
theorem results_cell3 {P : Program} {fn : Func} {p q s : Tmp} {ty : TypeId} (h : fn.results = #[.cell p ty, .tmp q, .tmp s]) (tmps : Array Value) (w : World) (g : Nat) (t : TypeId) (cs : Array Value) (fr : Nat × Nat) (d : TypeDesc) (v u : Value)
    (hp : tmps.getD p undef = .pointer (some ⟨g, 0, none⟩)) (hq : tmps.getD q undef = v) (hs : tmps.getD s undef = u) (hg : w.heap[g]? = some (.cells cs t fr))
    (hu : P.underlying ty = some d) (hd : (match d with | .struct _ | .array _ _ => true | _ => false) = true) (hi : (P.info? ty).map (·.size) = some cs.size) :
    (results fn tmps).run P w = .ok (.tuple #[.agg cs, v, u]) w := by
  have hp' : tmps[p]?.getD undef = .pointer (some ⟨g, 0, none⟩) := by simpa using hp
  have hq' : tmps[q]?.getD undef = v := by simpa using hq
  have hs' : tmps[s]?.getD undef = u := by simpa using hs
  simp [results, h, hp', hq', hs', asAddr, run_loadVar_row w g t ty cs fr d hg hu hd hi]
theorem cutOf_not4 (l : Bytes) : (cutOf l).2.2 ≠ 4 := by
  by_cases h1 : l.length < 8
  · rw [cutOf_few h1]; simp
  by_cases h2 : 65536 < num4 l
  · rw [cutOf_long h1 h2]; simp
  by_cases h3 : l.length < 8 + num4 l
  · rw [cutOf_short h1 h2 h3]; simp
  by_cases h4 : four (crc ((l.drop 8).take (num4 l))) = (l.drop 4).take 4
  · rw [cutOf_ok h1 h2 h3 h4]; simp
  · rw [cutOf_sum h1 h2 h3 h4]; simp
/-- the error of a row of frames: never 4; none just where the row ends with the bytes -/
theorem allOf_err (b : Bytes) : (allOf b).2.2 ≠ 4 ∧ (allOf b).2.1 ≤ b.length ∧ ((allOf b).2.2 = 0 ↔ (allOf b).2.1 = b.length) := by
  obtain ⟨h1, _, _, _, h5, _⟩ := scan_place (l := b) b.length 0 (by omega) (Nat.zero_le _)
  unfold allOf
  simp only
  refine ⟨?_, h1, ?_⟩
  · split
    · decide
    · exact cutOf_not4 _
  · split
    · simp_all
    · rename_i h
      constructor
      · intro h0
        exact absurd ⟨by omega, h0⟩ h5
      · intro h0
        exact absurd h0 h
/-- how Found ends -/
def FdPost (b : Bytes) (W : World) (e : Ending) (W' : World) : Prop :=
  ∃ (cs : Array Value) (kept : Bytes) (f : Nat), e = .returned (.tuple #[.agg cs, .string (str kept), .int .i64 (f : Nat)]) ∧ cs.size = 8 ∧ cs.all (·.oneCell') = true ∧ Below W.heap.size W W' ∧
  (((allOf b).2.2 ≠ 0 ∧ (allOf b).2.2 ≠ 3 ∧ f = (allOf b).2.2 ∧ kept = []) ∨
   (((allOf b).2.2 = 0 ∨ (allOf b).2.2 = 3) ∧ kept = b.take (allOf b).2.1 ∧ rd (allOf b).1 = none ∧ f = 4) ∨
   (((allOf b).2.2 = 0 ∨ (allOf b).2.2 = 3) ∧ kept = b.take (allOf b).2.1 ∧ f = 0 ∧ ∃ S vc vl, rd (allOf b).1 = some S ∧ cs = toldCells S vc vl ∧
      W'.ownsRow W.heap.size 3 1 vc S.log.conf.length (intVals S.log.conf) ∧ W'.ownsRow W.heap.size 116 3 vl S.log.l.length (enVals S.log.l)))
theorem refAll_str (b : Bytes) (hb : b.length ≤ 1048576) (w : World) : Calls Tryz.prog 95 #[.string (str b)] w fun e W' => ∃ v v2, e = .returned (.tuple #[v, v2, .int .i64 ((allOf b).2.1 : Nat), .int .i64 ((allOf b).2.2 : Nat)]) ∧
    W'.ownsRow w.heap.size 9 1 v (allOf b).1.length (strVals (allOf b).1) ∧ Below w.heap.size w W' := by
  have hcn := allOf_count b
  have h := refAll_any (str b) (by rw [str_size]; unfold maxLen; omega) (by show (scan b 0).1.length * 16 ≤ _; omega) w
  refine Calls.mono h ?_
  rintro e W' ⟨v, v2, rfl, h1, _, h3⟩
  refine ⟨v, v2, rfl, ?_, h3⟩
  rw [← strs_bodies, bodies_len]
  exact h1
set_option maxRecDepth 100000 in
set_option maxHeartbeats 8000000 in
theorem rfound_any (b : Bytes) (hb : b.length ≤ 1048576) (W : World) :
    Calls Tryz.prog 52 #[.string (str b)] W fun e W' => FdPost b W e W' := by
  have hsz : (str b).size = b.length := str_size _
  have hxn : (allOf b).1.length ≤ 900000 := by have := allOf_count b; have := bodies_len b; omega
  have HBS := hid (bodies_small b)
  have HALL := hid (refAll_str b hb)
  have HER := hid (allOf_err b)
  have hb0 : Below W.heap.size W (W.alloc (.cells toldZ 51)) := (Below.refl _ _).alloc (Nat.le_refl _) _
  have HB0 := hid hb0
  have HR0 := hid (heap_alloc_new W (.cells toldZ 51))
  have HFD : Hid (∀ e W', (∃ (cs : Array Value) (kept : Bytes) (f : Nat), e = .returned (.tuple #[.agg cs, .string (str kept), .int .i64 (f : Nat)]) ∧ cs.size = 8 ∧ cs.all (·.oneCell') = true ∧ Below W.heap.size W W' ∧
  (((allOf b).2.2 ≠ 0 ∧ (allOf b).2.2 ≠ 3 ∧ f = (allOf b).2.2 ∧ kept = []) ∨
   (((allOf b).2.2 = 0 ∨ (allOf b).2.2 = 3) ∧ kept = b.take (allOf b).2.1 ∧ rd (allOf b).1 = none ∧ f = 4) ∨
   (((allOf b).2.2 = 0 ∨ (allOf b).2.2 = 3) ∧ kept = b.take (allOf b).2.1 ∧ f = 0 ∧ ∃ S vc vl, rd (allOf b).1 = some S ∧ cs = toldCells S vc vl ∧
      W'.ownsRow W.heap.size 3 1 vc S.log.conf.length (intVals S.log.conf) ∧ W'.ownsRow W.heap.size 116 3 vl S.log.l.length (enVals S.log.l)))) → FdPost b W e W') := hid (fun _ _ h => h)
  clear hb0
  go_enter Tryz.func52, Tryz.ntmps52
  go_upto_region 1 with fail
  rw [show #[Value.int IntKind.u64 0, Value.int IntKind.i64 0, Value.int IntKind.u64 0, Value.int IntKind.u64 0, Value.int IntKind.u64 0, Value.slice none 0 0, Value.slice none 0 0, Value.string { data := #[] }] = toldZ from rfl]
  generalize W.alloc (.cells toldZ 51) = W0 at *
  have HRW : Hid (W.heap.size ≤ W.heap.size) := hid (Nat.le_refl _)
  generalize hre : W.heap.size = r at HR0 ⊢
  have HWR : Hid (W.heap.size ≤ r) := hid (by omega)
  clear hre HRW
  generalize hal : allOf b = al at *
  obtain ⟨xs, nn, e2⟩ := al
  simp only at HBS HALL HER HFD hxn
  clear hal
  go_upto_region 2 with ((go_at_call 95; refine Calls.mono (HALL.out _) ?_; rintro e w1 ⟨v, v2, rfl, hrow, hb1⟩; have HROW := hid hrow; have HR1 := hid (blk_below HR0.out hb1); have HB1 := hid (HB0.out.trans (hb1.mono HB0.out.size)); clear hrow hb1))
  have HC1 := hid (Cells.of_row (D := []) HROW.out (by simp))
  clear HROW HALL HR0 HB0
  by_cases h0 : e2 ≠ 0 ∧ e2 ≠ 3
  · as_aux_lemma =>
    have q1 : ((e2 : Int) != 0) = true := by simp only [bne_iff_ne, ne_eq]; omega
    have q2 : ¬ ((e2 : Int) = 0) := by omega
    have q3 : ((e2 : Int) != 3) = true := by simp only [bne_iff_ne, ne_eq]; omega
    have q4 : ¬ ((e2 : Int) = 3) := by omega
    have H0 := hid h0
    clear h0
    go_wp2_with (refine wpList_store_row rfl 51 _ _ rfl r toldZ (by rfl) (by rfl) 51 _ HR1.out sizeTold rfl (by simp [toldZ, Value.oneCell']) ?_)
    exact ⟨rfl, _, results_cell3 rfl _ _ r _ _ (0, 0) _ _ _ rfl rfl rfl (setRow_heap _ _ _ _ _ (0, 0) HR1.out) Tryz.underlying51 rfl sizeTold, HFD.out _ _ ⟨toldZ, [], e2, rfl, rfl, by simp [toldZ, Value.oneCell'], below_row HB1.out HWR.out _, .inl ⟨H0.out.1, H0.out.2, rfl, rfl⟩⟩⟩
  have hcs : e2 = 0 ∨ e2 = 3 := by omega
  have hnn : nn ≤ b.length := HER.out.2.1
  have HBB := hid hcs
  have hn1 : (nn : Int) ≤ (b.length : Int) := by omega
  have hn0 : (0 : Int) ≤ (nn : Int) := by omega
  have hex : (str b).extract 0 nn = str (b.take nn) := by rw [extract_str, str_data, List.drop_zero, Nat.sub_zero]
  have HRD := hid (rrd_any xs v w1 HC1.out HBS.out hxn)
  clear h0 HER HBS HC1
  rcases hcs with rfl | rfl
  · as_aux_lemma =>
    go_wp2_with fail
    refine Calls.mono HRD.out ?_
    rintro e w2 ⟨hm, hb2⟩
    have hk2 := heap_alloc_new w2 (.cells #[.int .u64 0, .int .i64 0, .int .u64 0, .int .u64 0, .int .u64 0, .slice none 0 0, .slice none 0 0, .string { data := #[] }] 51)
    have HR2 := hid (blk_alloc' (blk_below HR1.out hb2) (.cells #[.int .u64 0, .int .i64 0, .int .u64 0, .int .u64 0, .int .u64 0, .slice none 0 0, .slice none 0 0, .string { data := #[] }] 51))
    have HB2 : Hid (Below W.heap.size W (w2.alloc (.cells #[.int .u64 0, .int .i64 0, .int .u64 0, .int .u64 0, .int .u64 0, .slice none 0 0, .slice none 0 0, .string { data := #[] }] 51))) := hid ((HB1.out.trans (hb2.mono HB1.out.size)).alloc (Nat.le_trans HB1.out.size hb2.size) _)
    have HRL : Hid (r < w2.heap.size) := hid (Nat.lt_of_lt_of_le (Array.getElem?_eq_some_iff.1 HR1.out).1 hb2.size)
    have HKW : Hid (W.heap.size ≤ w2.heap.size) := hid (Nat.le_trans HB1.out.size hb2.size)
    have HB11 : Hid (W.heap.size ≤ w1.heap.size) := hid HB1.out.size
    have HRW := hid (blk_below HR1.out hb2)
    have HBW := hid (HB1.out.trans (hb2.mono HB1.out.size))
    clear hb2 HRD HR1 HB1
    cases hrd : rd xs with
    | none =>
      as_aux_lemma =>
      rw [hrd] at hm
      have HRN := hid hrd
      clear hrd
      obtain ⟨cs, hc8, hc1, rfl⟩ := hm
      have HK4 := hid (setRow_heap (w2.alloc (.cells #[.int .u64 0, .int .i64 0, .int .u64 0, .int .u64 0, .int .u64 0, .slice none 0 0, .slice none 0 0, .string { data := #[] }] 51)) w2.heap.size _ cs _ (0, 0) hk2)
      have HR4 := hid ((setRow_other (w2.alloc (.cells #[.int .u64 0, .int .i64 0, .int .u64 0, .int .u64 0, .int .u64 0, .slice none 0 0, .slice none 0 0, .string { data := #[] }] 51)) w2.heap.size r cs (by have := HRL.out; omega)).trans HR2.out)
      have HB4 := hid (below_row HB2.out HKW.out cs)
      go_upto_region 5 with (refine wpList_store_row rfl 51 _ _ rfl w2.heap.size cs (by rfl) (by rfl) 51 _ hk2 (by rw [hc8]; exact sizeTold) (by rw [hc8]; rfl) hc1 ?_)
      clear hk2
      generalize (w2.alloc (.cells #[.int .u64 0, .int .i64 0, .int .u64 0, .int .u64 0, .int .u64 0, .slice none 0 0, .slice none 0 0, .string { data := #[] }] 51)).setRow w2.heap.size cs = w4 at *
      have HKR : Hid (w2.heap.size ≠ r) := hid (by have := HRL.out; omega)
      generalize w2.heap.size = k at *
      have hS9 : RsAt k r cs w4.drew := ⟨HK4.out, _, HR4.out, rfl⟩
      go_wp2_with fail
      refine wp_region_held_drew (S := RsAt k r cs) (by kernel_rfl) hS9 (fun hHeld => ?_)
      refine wpAnyH_takeD (i := 0) (d := 33) (v := .agg #[.int .u64 0, .int .i64 0, .int .u64 0, .int .u64 0, .int .u64 0, .slice none 0 0, .slice none 0 0, .string { data := #[] }]) rfl rfl rfl (by kernel_rfl) (by kernel_rfl) (by kernel_rfl) (fun _ _ _ _ h => h) ?h0 hHeld ?_
      case h0 => intro w hS; go_simp
      simp only [Act.put, List.setIfInBounds_toArray, List.set_cons_zero, List.set_cons_succ]
      refine wpAnyH_takeD (i := 1) (d := 34) (v := .string (str b)) rfl rfl rfl (by kernel_rfl) (by kernel_rfl) (by kernel_rfl) (fun _ _ _ _ h => h) ?h1 hHeld ?_
      case h1 => intro w hS; go_simp
      simp only [Act.put, List.setIfInBounds_toArray, List.set_cons_zero, List.set_cons_succ]
      refine wpAnyH_takeD (i := 2) (d := 35) (v := .int .i64 (nn : Nat)) rfl rfl rfl (by kernel_rfl) (by kernel_rfl) (by kernel_rfl) (fun _ _ _ _ h => h) ?h2 hHeld ?_
      case h2 => intro w hS; go_simp
      simp only [Act.put, List.setIfInBounds_toArray, List.set_cons_zero, List.set_cons_succ]
      refine wpAnyH_takeD (i := 3) (d := 36) (v := .string (str (b.take nn))) rfl rfl rfl (by kernel_rfl) (by kernel_rfl) (by kernel_rfl) (fun _ _ _ _ h => h) ?h3 hHeld ?_
      case h3 => intro w hS; go_simp
      simp only [Act.put, List.setIfInBounds_toArray, List.set_cons_zero, List.set_cons_succ]
      obtain ⟨old, HOLD, hold⟩ := hHeld.2
      have HO3 := hid HOLD
      clear HOLD
      refine wpAnyH_one (i := 4) rfl rfl (by kernel_rfl) ?_
      refine wp_store_row 51 _ _ rfl r #[.int .u64 0, .int .i64 0, .int .u64 0, .int .u64 0, .int .u64 0, .slice none 0 0, .slice none 0 0, .string { data := #[] }] (by rfl) (by rfl) 51 _ HO3.out sizeTold hold (by simp [toldZ, Value.oneCell']) ?_
      refine ⟨hHeld.row HKR.out #[.int .u64 0, .int .i64 0, .int .u64 0, .int .u64 0, .int .u64 0, .slice none 0 0, .slice none 0 0, .string { data := #[] }] rfl, ?_⟩
      try simp only [Act.put, List.setIfInBounds_toArray, List.set_cons_zero, List.set_cons_succ]
      refine wpAnyH_one (i := 5) rfl rfl (by kernel_rfl) ?_
      go_simp
      refine ⟨hHeld.row HKR.out #[.int .u64 0, .int .i64 0, .int .u64 0, .int .u64 0, .int .u64 0, .slice none 0 0, .slice none 0 0, .string { data := #[] }] rfl, ?_⟩
      try simp only [Act.put, List.setIfInBounds_toArray, List.set_cons_zero, List.set_cons_succ]
      refine wpAnyH_one (i := 6) rfl rfl (by kernel_rfl) ?_
      go_simp
      refine ⟨hHeld.row HKR.out #[.int .u64 0, .int .i64 0, .int .u64 0, .int .u64 0, .int .u64 0, .slice none 0 0, .slice none 0 0, .string { data := #[] }] rfl, wpAnyH_done (by kernel_rfl) ?_ _⟩
      try simp only [Act.put, List.setIfInBounds_toArray, List.set_cons_zero, List.set_cons_succ]
      have HB9 : Hid (Below W.heap.size W w4.drew) := hid HB4.out.drew
      go_wp2_with fail
      exact ⟨rfl, _, results_cell3 rfl _ _ r _ _ (0, 0) _ _ _ rfl rfl rfl (setRow_heap _ _ _ _ _ (0, 0) HO3.out) Tryz.underlying51 rfl sizeTold, HFD.out _ _ ⟨toldZ, b.take nn, 4, rfl, rfl, by simp [toldZ, Value.oneCell'], below_row HB9.out HWR.out _, .inr (.inl ⟨HBB.out, rfl, HRN.out, rfl⟩)⟩⟩
    | some S =>
      as_aux_lemma =>
      rw [hrd] at hm
      have HRN := hid hrd
      clear hrd
      obtain ⟨vc, vl, rfl, hr1, hr2⟩ := hm
      obtain ⟨avc, cvc, rfl⟩ := own_form hr1
      obtain ⟨avl, cvl, rfl⟩ := own_form hr2
      rw [show toldCells S (.slice avc S.log.conf.length cvc) (.slice avl S.log.l.length cvl) = #[.int .u64 (S.hard.term : Nat), .int .i64 S.hard.vote, .int .u64 (S.hard.life : Nat), .int .u64 (S.log.base : Nat), .int .u64 (S.log.bterm : Nat), .slice avc S.log.conf.length cvc, .slice avl S.log.l.length cvl, .string (str S.image)] from rfl]
      have hc8 : (#[.int .u64 (S.hard.term : Nat), .int .i64 S.hard.vote, .int .u64 (S.hard.life : Nat), .int .u64 (S.log.base : Nat), .int .u64 (S.log.bterm : Nat), .slice avc S.log.conf.length cvc, .slice avl S.log.l.length cvl, .string (str S.image)] : Array Value).size = 8 := rfl
      have hc1 : (#[.int .u64 (S.hard.term : Nat), .int .i64 S.hard.vote, .int .u64 (S.hard.life : Nat), .int .u64 (S.log.base : Nat), .int .u64 (S.log.bterm : Nat), .slice avc S.log.conf.length cvc, .slice avl S.log.l.length cvl, .string (str S.image)] : Array Value).all (·.oneCell') = true := by simp [Value.oneCell']
      have HK4 := hid (heap_alloc_new w2 (.cells #[.int .u64 (S.hard.term : Nat), .int .i64 S.hard.vote, .int .u64 (S.hard.life : Nat), .int .u64 (S.log.base : Nat), .int .u64 (S.log.bterm : Nat), .slice avc S.log.conf.length cvc, .slice avl S.log.l.length cvl, .string (str S.image)] 51))
      have HR4 := hid (blk_alloc' HRW.out (.cells #[.int .u64 (S.hard.term : Nat), .int .i64 S.hard.vote, .int .u64 (S.hard.life : Nat), .int .u64 (S.log.base : Nat), .int .u64 (S.log.bterm : Nat), .slice avc S.log.conf.length cvc, .slice avl S.log.l.length cvl, .string (str S.image)] 51))
      have HB4 : Hid (Below W.heap.size W (w2.alloc (.cells #[.int .u64 (S.hard.term : Nat), .int .i64 S.hard.vote, .int .u64 (S.hard.life : Nat), .int .u64 (S.log.base : Nat), .int .u64 (S.log.bterm : Nat), .slice avc S.log.conf.length cvc, .slice avl S.log.l.length cvl, .string (str S.image)] 51))) := hid (HBW.out.alloc HKW.out _)
      have HVC := hid (ownsRow_mono (hr1.alloc (.cells #[.int .u64 (S.hard.term : Nat), .int .i64 S.hard.vote, .int .u64 (S.hard.life : Nat), .int .u64 (S.log.base : Nat), .int .u64 (S.log.bterm : Nat), .slice avc S.log.conf.length cvc, .slice avl S.log.l.length cvl, .string (str S.image)] 51)) HB11.out)
      have HVL := hid (ownsRow_mono (hr2.alloc (.cells #[.int .u64 (S.hard.term : Nat), .int .i64 S.hard.vote, .int .u64 (S.hard.life : Nat), .int .u64 (S.log.base : Nat), .int .u64 (S.log.bterm : Nat), .slice avc S.log.conf.length cvc, .slice avl S.log.l.length cvl, .string (str S.image)] 51)) HB11.out)
      clear hr1 hr2 hk2 hc8 hc1 HR2 HB2
      go_upto_region 5 with fail
      generalize w2.alloc (.cells #[.int .u64 (S.hard.term : Nat), .int .i64 S.hard.vote, .int .u64 (S.hard.life : Nat), .int .u64 (S.log.base : Nat), .int .u64 (S.log.bterm : Nat), .slice avc S.log.conf.length cvc, .slice avl S.log.l.length cvl, .string (str S.image)] 51) = w4 at *
      have HKR : Hid (w2.heap.size ≠ r) := hid (by have := HRL.out; omega)
      generalize w2.heap.size = k at *
      have hS9 : RsAt k r #[.int .u64 (S.hard.term : Nat), .int .i64 S.hard.vote, .int .u64 (S.hard.life : Nat), .int .u64 (S.log.base : Nat), .int .u64 (S.log.bterm : Nat), .slice avc S.log.conf.length cvc, .slice avl S.log.l.length cvl, .string (str S.image)] w4.drew := ⟨HK4.out, _, HR4.out, rfl⟩
      have HK9 := hid HK4.out
      have HCO : Hid (∀ W' : World, RsAt k r #[.int .u64 (S.hard.term : Nat), .int .i64 S.hard.vote, .int .u64 (S.hard.life : Nat), .int .u64 (S.log.base : Nat), .int .u64 (S.log.bterm : Nat), .slice avc S.log.conf.length cvc, .slice avl S.log.l.length cvl, .string (str S.image)] W' → W'.cell? ⟨k, 0, none⟩ = some (.int .u64 (S.hard.term : Nat)) ∧ W'.cell? ⟨k, 1, none⟩ = some (.int .i64 S.hard.vote) ∧ W'.cell? ⟨k, 2, none⟩ = some (.int .u64 (S.hard.life : Nat)) ∧ W'.cell? ⟨k, 3, none⟩ = some (.int .u64 (S.log.base : Nat)) ∧ W'.cell? ⟨k, 4, none⟩ = some (.int .u64 (S.log.bterm : Nat)) ∧ W'.cell? ⟨k, 5, none⟩ = some (.slice avc S.log.conf.length cvc) ∧ W'.cell? ⟨k, 6, none⟩ = some (.slice avl S.log.l.length cvl) ∧ W'.cell? ⟨k, 7, none⟩ = some (.string (str S.image))) := hid (fun W' h => ⟨cell_in h.1 0 _ rfl, cell_in h.1 1 _ rfl, cell_in h.1 2 _ rfl, cell_in h.1 3 _ rfl, cell_in h.1 4 _ rfl, cell_in h.1 5 _ rfl, cell_in h.1 6 _ rfl, cell_in h.1 7 _ rfl⟩)
      have HVC4 : Hid (w4.drew.ownsRow W.heap.size 3 1 (.slice avc S.log.conf.length cvc) S.log.conf.length (intVals S.log.conf)) := hid HVC.out
      have HVL4 : Hid (w4.drew.ownsRow W.heap.size 116 3 (.slice avl S.log.l.length cvl) S.log.l.length (enVals S.log.l)) := hid HVL.out
      have HRD4 : Hid (w4.drew.heap[r]? = some (.cells toldZ 51)) := hid HR4.out
      go_wp2_with fail
      refine wp_region_held_drew (S := RsAt k r #[.int .u64 (S.hard.term : Nat), .int .i64 S.hard.vote, .int .u64 (S.hard.life : Nat), .int .u64 (S.log.base : Nat), .int .u64 (S.log.bterm : Nat), .slice avc S.log.conf.length cvc, .slice avl S.log.l.length cvl, .string (str S.image)]) (by kernel_rfl) hS9 (fun hHeld => ?_)
      refine wpAnyH_takeD (i := 0) (d := 37) (v := .agg #[.int .u64 (S.hard.term : Nat), .int .i64 S.hard.vote, .int .u64 (S.hard.life : Nat), .int .u64 (S.log.base : Nat), .int .u64 (S.log.bterm : Nat), .slice avc S.log.conf.length cvc, .slice avl S.log.l.length cvl, .string (str S.image)]) rfl rfl rfl (by kernel_rfl) (by kernel_rfl) (by kernel_rfl) (fun _ _ _ _ h => h) ?h0 hHeld ?_
      case h0 => intro w hS; obtain ⟨e0, e1, e2, e3, e4, e5, e6, e7⟩ := HCO.out w hS; go_simp
      simp only [Act.put, List.setIfInBounds_toArray, List.set_cons_zero, List.set_cons_succ]
      refine wpAnyH_takeD (i := 1) (d := 38) (v := .string (str b)) rfl rfl rfl (by kernel_rfl) (by kernel_rfl) (by kernel_rfl) (fun _ _ _ _ h => h) ?h1 hHeld ?_
      case h1 => intro w hS; go_simp
      simp only [Act.put, List.setIfInBounds_toArray, List.set_cons_zero, List.set_cons_succ]
      refine wpAnyH_takeD (i := 2) (d := 39) (v := .int .i64 (nn : Nat)) rfl rfl rfl (by kernel_rfl) (by kernel_rfl) (by kernel_rfl) (fun _ _ _ _ h => h) ?h2 hHeld ?_
      case h2 => intro w hS; go_simp
      simp only [Act.put, List.setIfInBounds_toArray, List.set_cons_zero, List.set_cons_succ]
      refine wpAnyH_takeD (i := 3) (d := 40) (v := .string (str (b.take nn))) rfl rfl rfl (by kernel_rfl) (by kernel_rfl) (by kernel_rfl) (fun _ _ _ _ h => h) ?h3 hHeld ?_
      case h3 => intro w hS; go_simp
      simp only [Act.put, List.setIfInBounds_toArray, List.set_cons_zero, List.set_cons_succ]
      obtain ⟨old, HOLD, hold⟩ := hHeld.2
      have HO3 := hid HOLD
      clear HOLD
      refine wpAnyH_one (i := 4) rfl rfl (by kernel_rfl) ?_
      refine wp_store_row 51 _ _ rfl r #[.int .u64 (S.hard.term : Nat), .int .i64 S.hard.vote, .int .u64 (S.hard.life : Nat), .int .u64 (S.log.base : Nat), .int .u64 (S.log.bterm : Nat), .slice avc S.log.conf.length cvc, .slice avl S.log.l.length cvl, .string (str S.image)] (by rfl) (by rfl) 51 _ HO3.out sizeTold hold (by simp [toldZ, Value.oneCell']) ?_
      refine ⟨hHeld.row HKR.out #[.int .u64 (S.hard.term : Nat), .int .i64 S.hard.vote, .int .u64 (S.hard.life : Nat), .int .u64 (S.log.base : Nat), .int .u64 (S.log.bterm : Nat), .slice avc S.log.conf.length cvc, .slice avl S.log.l.length cvl, .string (str S.image)] rfl, ?_⟩
      try simp only [Act.put, List.setIfInBounds_toArray, List.set_cons_zero, List.set_cons_succ]
      refine wpAnyH_one (i := 5) rfl rfl (by kernel_rfl) ?_
      go_simp
      refine ⟨hHeld.row HKR.out #[.int .u64 (S.hard.term : Nat), .int .i64 S.hard.vote, .int .u64 (S.hard.life : Nat), .int .u64 (S.log.base : Nat), .int .u64 (S.log.bterm : Nat), .slice avc S.log.conf.length cvc, .slice avl S.log.l.length cvl, .string (str S.image)] rfl, ?_⟩
      try simp only [Act.put, List.setIfInBounds_toArray, List.set_cons_zero, List.set_cons_succ]
      refine wpAnyH_one (i := 6) rfl rfl (by kernel_rfl) ?_
      go_simp
      refine ⟨hHeld.row HKR.out #[.int .u64 (S.hard.term : Nat), .int .i64 S.hard.vote, .int .u64 (S.hard.life : Nat), .int .u64 (S.log.base : Nat), .int .u64 (S.log.bterm : Nat), .slice avc S.log.conf.length cvc, .slice avl S.log.l.length cvl, .string (str S.image)] rfl, wpAnyH_done (by kernel_rfl) ?_ _⟩
      try simp only [Act.put, List.setIfInBounds_toArray, List.set_cons_zero, List.set_cons_succ]
      have HB9 : Hid (Below W.heap.size W w4.drew) := hid HB4.out.drew
      go_wp2_with fail
      exact ⟨rfl, _, results_cell3 rfl _ _ r _ _ (0, 0) _ _ _ rfl rfl rfl (setRow_heap _ _ _ _ _ (0, 0) HO3.out) Tryz.underlying51 rfl sizeTold, HFD.out _ _ ⟨#[.int .u64 (S.hard.term : Nat), .int .i64 S.hard.vote, .int .u64 (S.hard.life : Nat), .int .u64 (S.log.base : Nat), .int .u64 (S.log.bterm : Nat), .slice avc S.log.conf.length cvc, .slice avl S.log.l.length cvl, .string (str S.image)], b.take nn, 0, rfl, rfl, by simp [Value.oneCell'], below_row HB9.out HWR.out _, .inr (.inr ⟨HBB.out, rfl, rfl, S, _, _, HRN.out, rfl, HVC4.out.row1 HRD4.out _ (by decide), HVL4.out.row1 HRD4.out _ (by decide)⟩)⟩⟩
  · as_aux_lemma =>
    go_wp2_with fail
    refine Calls.mono HRD.out ?_
    rintro e w2 ⟨hm, hb2⟩
    have hk2 := heap_alloc_new w2 (.cells #[.int .u64 0, .int .i64 0, .int .u64 0, .int .u64 0, .int .u64 0, .slice none 0 0, .slice none 0 0, .string { data := #[] }] 51)
    have HR2 := hid (blk_alloc' (blk_below HR1.out hb2) (.cells #[.int .u64 0, .int .i64 0, .int .u64 0, .int .u64 0, .int .u64 0, .slice none 0 0, .slice none 0 0, .string { data := #[] }] 51))
    have HB2 : Hid (Below W.heap.size W (w2.alloc (.cells #[.int .u64 0, .int .i64 0, .int .u64 0, .int .u64 0, .int .u64 0, .slice none 0 0, .slice none 0 0, .string { data := #[] }] 51))) := hid ((HB1.out.trans (hb2.mono HB1.out.size)).alloc (Nat.le_trans HB1.out.size hb2.size) _)
    have HRL : Hid (r < w2.heap.size) := hid (Nat.lt_of_lt_of_le (Array.getElem?_eq_some_iff.1 HR1.out).1 hb2.size)
    have HKW : Hid (W.heap.size ≤ w2.heap.size) := hid (Nat.le_trans HB1.out.size hb2.size)
    have HB11 : Hid (W.heap.size ≤ w1.heap.size) := hid HB1.out.size
    have HRW := hid (blk_below HR1.out hb2)
    have HBW := hid (HB1.out.trans (hb2.mono HB1.out.size))
    clear hb2 HRD HR1 HB1
    cases hrd : rd xs with
    | none =>
      as_aux_lemma =>
      rw [hrd] at hm
      have HRN := hid hrd
      clear hrd
      obtain ⟨cs, hc8, hc1, rfl⟩ := hm
      have HK4 := hid (setRow_heap (w2.alloc (.cells #[.int .u64 0, .int .i64 0, .int .u64 0, .int .u64 0, .int .u64 0, .slice none 0 0, .slice none 0 0, .string { data := #[] }] 51)) w2.heap.size _ cs _ (0, 0) hk2)
      have HR4 := hid ((setRow_other (w2.alloc (.cells #[.int .u64 0, .int .i64 0, .int .u64 0, .int .u64 0, .int .u64 0, .slice none 0 0, .slice none 0 0, .string { data := #[] }] 51)) w2.heap.size r cs (by have := HRL.out; omega)).trans HR2.out)
      have HB4 := hid (below_row HB2.out HKW.out cs)
      go_upto_region 5 with (refine wpList_store_row rfl 51 _ _ rfl w2.heap.size cs (by rfl) (by rfl) 51 _ hk2 (by rw [hc8]; exact sizeTold) (by rw [hc8]; rfl) hc1 ?_)
      clear hk2
      generalize (w2.alloc (.cells #[.int .u64 0, .int .i64 0, .int .u64 0, .int .u64 0, .int .u64 0, .slice none 0 0, .slice none 0 0, .string { data := #[] }] 51)).setRow w2.heap.size cs = w4 at *
      have HKR : Hid (w2.heap.size ≠ r) := hid (by have := HRL.out; omega)
      generalize w2.heap.size = k at *
      have hS9 : RsAt k r cs w4.drew := ⟨HK4.out, _, HR4.out, rfl⟩
      go_wp2_with fail
      refine wp_region_held_drew (S := RsAt k r cs) (by kernel_rfl) hS9 (fun hHeld => ?_)
      refine wpAnyH_takeD (i := 0) (d := 33) (v := .agg #[.int .u64 0, .int .i64 0, .int .u64 0, .int .u64 0, .int .u64 0, .slice none 0 0, .slice none 0 0, .string { data := #[] }]) rfl rfl rfl (by kernel_rfl) (by kernel_rfl) (by kernel_rfl) (fun _ _ _ _ h => h) ?h0 hHeld ?_
      case h0 => intro w hS; go_simp
      simp only [Act.put, List.setIfInBounds_toArray, List.set_cons_zero, List.set_cons_succ]
      refine wpAnyH_takeD (i := 1) (d := 34) (v := .string (str b)) rfl rfl rfl (by kernel_rfl) (by kernel_rfl) (by kernel_rfl) (fun _ _ _ _ h => h) ?h1 hHeld ?_
      case h1 => intro w hS; go_simp
      simp only [Act.put, List.setIfInBounds_toArray, List.set_cons_zero, List.set_cons_succ]
      refine wpAnyH_takeD (i := 2) (d := 35) (v := .int .i64 (nn : Nat)) rfl rfl rfl (by kernel_rfl) (by kernel_rfl) (by kernel_rfl) (fun _ _ _ _ h => h) ?h2 hHeld ?_
      case h2 => intro w hS; go_simp
      simp only [Act.put, List.setIfInBounds_toArray, List.set_cons_zero, List.set_cons_succ]
      refine wpAnyH_takeD (i := 3) (d := 36) (v := .string (str (b.take nn))) rfl rfl rfl (by kernel_rfl) (by kernel_rfl) (by kernel_rfl) (fun _ _ _ _ h => h) ?h3 hHeld ?_
      case h3 => intro w hS; go_simp
      simp only [Act.put, List.setIfInBounds_toArray, List.set_cons_zero, List.set_cons_succ]
      obtain ⟨old, HOLD, hold⟩ := hHeld.2
      have HO3 := hid HOLD
      clear HOLD
      refine wpAnyH_one (i := 4) rfl rfl (by kernel_rfl) ?_
      refine wp_store_row 51 _ _ rfl r #[.int .u64 0, .int .i64 0, .int .u64 0, .int .u64 0, .int .u64 0, .slice none 0 0, .slice none 0 0, .string { data := #[] }] (by rfl) (by rfl) 51 _ HO3.out sizeTold hold (by simp [toldZ, Value.oneCell']) ?_
      refine ⟨hHeld.row HKR.out #[.int .u64 0, .int .i64 0, .int .u64 0, .int .u64 0, .int .u64 0, .slice none 0 0, .slice none 0 0, .string { data := #[] }] rfl, ?_⟩
      try simp only [Act.put, List.setIfInBounds_toArray, List.set_cons_zero, List.set_cons_succ]
      refine wpAnyH_one (i := 5) rfl rfl (by kernel_rfl) ?_
      go_simp
      refine ⟨hHeld.row HKR.out #[.int .u64 0, .int .i64 0, .int .u64 0, .int .u64 0, .int .u64 0, .slice none 0 0, .slice none 0 0, .string { data := #[] }] rfl, ?_⟩
      try simp only [Act.put, List.setIfInBounds_toArray, List.set_cons_zero, List.set_cons_succ]
      refine wpAnyH_one (i := 6) rfl rfl (by kernel_rfl) ?_
      go_simp
      refine ⟨hHeld.row HKR.out #[.int .u64 0, .int .i64 0, .int .u64 0, .int .u64 0, .int .u64 0, .slice none 0 0, .slice none 0 0, .string { data := #[] }] rfl, wpAnyH_done (by kernel_rfl) ?_ _⟩
      try simp only [Act.put, List.setIfInBounds_toArray, List.set_cons_zero, List.set_cons_succ]
      have HB9 : Hid (Below W.heap.size W w4.drew) := hid HB4.out.drew
      go_wp2_with fail
      exact ⟨rfl, _, results_cell3 rfl _ _ r _ _ (0, 0) _ _ _ rfl rfl rfl (setRow_heap _ _ _ _ _ (0, 0) HO3.out) Tryz.underlying51 rfl sizeTold, HFD.out _ _ ⟨toldZ, b.take nn, 4, rfl, rfl, by simp [toldZ, Value.oneCell'], below_row HB9.out HWR.out _, .inr (.inl ⟨HBB.out, rfl, HRN.out, rfl⟩)⟩⟩
    | some S =>
      as_aux_lemma =>
      rw [hrd] at hm
      have HRN := hid hrd
      clear hrd
      obtain ⟨vc, vl, rfl, hr1, hr2⟩ := hm
      obtain ⟨avc, cvc, rfl⟩ := own_form hr1
      obtain ⟨avl, cvl, rfl⟩ := own_form hr2
      rw [show toldCells S (.slice avc S.log.conf.length cvc) (.slice avl S.log.l.length cvl) = #[.int .u64 (S.hard.term : Nat), .int .i64 S.hard.vote, .int .u64 (S.hard.life : Nat), .int .u64 (S.log.base : Nat), .int .u64 (S.log.bterm : Nat), .slice avc S.log.conf.length cvc, .slice avl S.log.l.length cvl, .string (str S.image)] from rfl]
      have hc8 : (#[.int .u64 (S.hard.term : Nat), .int .i64 S.hard.vote, .int .u64 (S.hard.life : Nat), .int .u64 (S.log.base : Nat), .int .u64 (S.log.bterm : Nat), .slice avc S.log.conf.length cvc, .slice avl S.log.l.length cvl, .string (str S.image)] : Array Value).size = 8 := rfl
      have hc1 : (#[.int .u64 (S.hard.term : Nat), .int .i64 S.hard.vote, .int .u64 (S.hard.life : Nat), .int .u64 (S.log.base : Nat), .int .u64 (S.log.bterm : Nat), .slice avc S.log.conf.length cvc, .slice avl S.log.l.length cvl, .string (str S.image)] : Array Value).all (·.oneCell') = true := by simp [Value.oneCell']
      have HK4 := hid (heap_alloc_new w2 (.cells #[.int .u64 (S.hard.term : Nat), .int .i64 S.hard.vote, .int .u64 (S.hard.life : Nat), .int .u64 (S.log.base : Nat), .int .u64 (S.log.bterm : Nat), .slice avc S.log.conf.length cvc, .slice avl S.log.l.length cvl, .string (str S.image)] 51))
      have HR4 := hid (blk_alloc' HRW.out (.cells #[.int .u64 (S.hard.term : Nat), .int .i64 S.hard.vote, .int .u64 (S.hard.life : Nat), .int .u64 (S.log.base : Nat), .int .u64 (S.log.bterm : Nat), .slice avc S.log.conf.length cvc, .slice avl S.log.l.length cvl, .string (str S.image)] 51))
      have HB4 : Hid (Below W.heap.size W (w2.alloc (.cells #[.int .u64 (S.hard.term : Nat), .int .i64 S.hard.vote, .int .u64 (S.hard.life : Nat), .int .u64 (S.log.base : Nat), .int .u64 (S.log.bterm : Nat), .slice avc S.log.conf.length cvc, .slice avl S.log.l.length cvl, .string (str S.image)] 51))) := hid (HBW.out.alloc HKW.out _)
      have HVC := hid (ownsRow_mono (hr1.alloc (.cells #[.int .u64 (S.hard.term : Nat), .int .i64 S.hard.vote, .int .u64 (S.hard.life : Nat), .int .u64 (S.log.base : Nat), .int .u64 (S.log.bterm : Nat), .slice avc S.log.conf.length cvc, .slice avl S.log.l.length cvl, .string (str S.image)] 51)) HB11.out)
      have HVL := hid (ownsRow_mono (hr2.alloc (.cells #[.int .u64 (S.hard.term : Nat), .int .i64 S.hard.vote, .int .u64 (S.hard.life : Nat), .int .u64 (S.log.base : Nat), .int .u64 (S.log.bterm : Nat), .slice avc S.log.conf.length cvc, .slice avl S.log.l.length cvl, .string (str S.image)] 51)) HB11.out)
      clear hr1 hr2 hk2 hc8 hc1 HR2 HB2
      go_upto_region 5 with fail
      generalize w2.alloc (.cells #[.int .u64 (S.hard.term : Nat), .int .i64 S.hard.vote, .int .u64 (S.hard.life : Nat), .int .u64 (S.log.base : Nat), .int .u64 (S.log.bterm : Nat), .slice avc S.log.conf.length cvc, .slice avl S.log.l.length cvl, .string (str S.image)] 51) = w4 at *
      have HKR : Hid (w2.heap.size ≠ r) := hid (by have := HRL.out; omega)
      generalize w2.heap.size = k at *
      have hS9 : RsAt k r #[.int .u64 (S.hard.term : Nat), .int .i64 S.hard.vote, .int .u64 (S.hard.life : Nat), .int .u64 (S.log.base : Nat), .int .u64 (S.log.bterm : Nat), .slice avc S.log.conf.length cvc, .slice avl S.log.l.length cvl, .string (str S.image)] w4.drew := ⟨HK4.out, _, HR4.out, rfl⟩
      have HK9 := hid HK4.out
      have HCO : Hid (∀ W' : World, RsAt k r #[.int .u64 (S.hard.term : Nat), .int .i64 S.hard.vote, .int .u64 (S.hard.life : Nat), .int .u64 (S.log.base : Nat), .int .u64 (S.log.bterm : Nat), .slice avc S.log.conf.length cvc, .slice avl S.log.l.length cvl, .string (str S.image)] W' → W'.cell? ⟨k, 0, none⟩ = some (.int .u64 (S.hard.term : Nat)) ∧ W'.cell? ⟨k, 1, none⟩ = some (.int .i64 S.hard.vote) ∧ W'.cell? ⟨k, 2, none⟩ = some (.int .u64 (S.hard.life : Nat)) ∧ W'.cell? ⟨k, 3, none⟩ = some (.int .u64 (S.log.base : Nat)) ∧ W'.cell? ⟨k, 4, none⟩ = some (.int .u64 (S.log.bterm : Nat)) ∧ W'.cell? ⟨k, 5, none⟩ = some (.slice avc S.log.conf.length cvc) ∧ W'.cell? ⟨k, 6, none⟩ = some (.slice avl S.log.l.length cvl) ∧ W'.cell? ⟨k, 7, none⟩ = some (.string (str S.image))) := hid (fun W' h => ⟨cell_in h.1 0 _ rfl, cell_in h.1 1 _ rfl, cell_in h.1 2 _ rfl, cell_in h.1 3 _ rfl, cell_in h.1 4 _ rfl, cell_in h.1 5 _ rfl, cell_in h.1 6 _ rfl, cell_in h.1 7 _ rfl⟩)
      have HVC4 : Hid (w4.drew.ownsRow W.heap.size 3 1 (.slice avc S.log.conf.length cvc) S.log.conf.length (intVals S.log.conf)) := hid HVC.out
      have HVL4 : Hid (w4.drew.ownsRow W.heap.size 116 3 (.slice avl S.log.l.length cvl) S.log.l.length (enVals S.log.l)) := hid HVL.out
      have HRD4 : Hid (w4.drew.heap[r]? = some (.cells toldZ 51)) := hid HR4.out
      go_wp2_with fail
      refine wp_region_held_drew (S := RsAt k r #[.int .u64 (S.hard.term : Nat), .int .i64 S.hard.vote, .int .u64 (S.hard.life : Nat), .int .u64 (S.log.base : Nat), .int .u64 (S.log.bterm : Nat), .slice avc S.log.conf.length cvc, .slice avl S.log.l.length cvl, .string (str S.image)]) (by kernel_rfl) hS9 (fun hHeld => ?_)
      refine wpAnyH_takeD (i := 0) (d := 37) (v := .agg #[.int .u64 (S.hard.term : Nat), .int .i64 S.hard.vote, .int .u64 (S.hard.life : Nat), .int .u64 (S.log.base : Nat), .int .u64 (S.log.bterm : Nat), .slice avc S.log.conf.length cvc, .slice avl S.log.l.length cvl, .string (str S.image)]) rfl rfl rfl (by kernel_rfl) (by kernel_rfl) (by kernel_rfl) (fun _ _ _ _ h => h) ?h0 hHeld ?_
      case h0 => intro w hS; obtain ⟨e0, e1, e2, e3, e4, e5, e6, e7⟩ := HCO.out w hS; go_simp
      simp only [Act.put, List.setIfInBounds_toArray, List.set_cons_zero, List.set_cons_succ]
      refine wpAnyH_takeD (i := 1) (d := 38) (v := .string (str b)) rfl rfl rfl (by kernel_rfl) (by kernel_rfl) (by kernel_rfl) (fun _ _ _ _ h => h) ?h1 hHeld ?_
      case h1 => intro w hS; go_simp
      simp only [Act.put, List.setIfInBounds_toArray, List.set_cons_zero, List.set_cons_succ]
      refine wpAnyH_takeD (i := 2) (d := 39) (v := .int .i64 (nn : Nat)) rfl rfl rfl (by kernel_rfl) (by kernel_rfl) (by kernel_rfl) (fun _ _ _ _ h => h) ?h2 hHeld ?_
      case h2 => intro w hS; go_simp
      simp only [Act.put, List.setIfInBounds_toArray, List.set_cons_zero, List.set_cons_succ]
      refine wpAnyH_takeD (i := 3) (d := 40) (v := .string (str (b.take nn))) rfl rfl rfl (by kernel_rfl) (by kernel_rfl) (by kernel_rfl) (fun _ _ _ _ h => h) ?h3 hHeld ?_
      case h3 => intro w hS; go_simp
      simp only [Act.put, List.setIfInBounds_toArray, List.set_cons_zero, List.set_cons_succ]
      obtain ⟨old, HOLD, hold⟩ := hHeld.2
      have HO3 := hid HOLD
      clear HOLD
      refine wpAnyH_one (i := 4) rfl rfl (by kernel_rfl) ?_
      refine wp_store_row 51 _ _ rfl r #[.int .u64 (S.hard.term : Nat), .int .i64 S.hard.vote, .int .u64 (S.hard.life : Nat), .int .u64 (S.log.base : Nat), .int .u64 (S.log.bterm : Nat), .slice avc S.log.conf.length cvc, .slice avl S.log.l.length cvl, .string (str S.image)] (by rfl) (by rfl) 51 _ HO3.out sizeTold hold (by simp [toldZ, Value.oneCell']) ?_
      refine ⟨hHeld.row HKR.out #[.int .u64 (S.hard.term : Nat), .int .i64 S.hard.vote, .int .u64 (S.hard.life : Nat), .int .u64 (S.log.base : Nat), .int .u64 (S.log.bterm : Nat), .slice avc S.log.conf.length cvc, .slice avl S.log.l.length cvl, .string (str S.image)] rfl, ?_⟩
      try simp only [Act.put, List.setIfInBounds_toArray, List.set_cons_zero, List.set_cons_succ]
      refine wpAnyH_one (i := 5) rfl rfl (by kernel_rfl) ?_
      go_simp
      refine ⟨hHeld.row HKR.out #[.int .u64 (S.hard.term : Nat), .int .i64 S.hard.vote, .int .u64 (S.hard.life : Nat), .int .u64 (S.log.base : Nat), .int .u64 (S.log.bterm : Nat), .slice avc S.log.conf.length cvc, .slice avl S.log.l.length cvl, .string (str S.image)] rfl, ?_⟩
      try simp only [Act.put, List.setIfInBounds_toArray, List.set_cons_zero, List.set_cons_succ]
      refine wpAnyH_one (i := 6) rfl rfl (by kernel_rfl) ?_
      go_simp
      refine ⟨hHeld.row HKR.out #[.int .u64 (S.hard.term : Nat), .int .i64 S.hard.vote, .int .u64 (S.hard.life : Nat), .int .u64 (S.log.base : Nat), .int .u64 (S.log.bterm : Nat), .slice avc S.log.conf.length cvc, .slice avl S.log.l.length cvl, .string (str S.image)] rfl, wpAnyH_done (by kernel_rfl) ?_ _⟩
      try simp only [Act.put, List.setIfInBounds_toArray, List.set_cons_zero, List.set_cons_succ]
      have HB9 : Hid (Below W.heap.size W w4.drew) := hid HB4.out.drew
      go_wp2_with fail
      exact ⟨rfl, _, results_cell3 rfl _ _ r _ _ (0, 0) _ _ _ rfl rfl rfl (setRow_heap _ _ _ _ _ (0, 0) HO3.out) Tryz.underlying51 rfl sizeTold, HFD.out _ _ ⟨#[.int .u64 (S.hard.term : Nat), .int .i64 S.hard.vote, .int .u64 (S.hard.life : Nat), .int .u64 (S.log.base : Nat), .int .u64 (S.log.bterm : Nat), .slice avc S.log.conf.length cvc, .slice avl S.log.l.length cvl, .string (str S.image)], b.take nn, 0, rfl, rfl, by simp [Value.oneCell'], below_row HB9.out HWR.out _, .inr (.inr ⟨HBB.out, rfl, rfl, S, _, _, HRN.out, rfl, HVC4.out.row1 HRD4.out _ (by decide), HVL4.out.row1 HRD4.out _ (by decide)⟩)⟩⟩
end Go.Proofs.YtmehcogaopackaaGreat
