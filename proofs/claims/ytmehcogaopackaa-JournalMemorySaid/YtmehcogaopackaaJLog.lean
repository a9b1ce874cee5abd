/-
  The walks of the journal's clone, Hard, Log, Image; disk.New; of the calls on a journal that is none.
-/
import Derived.Test.YtmehcogaopackaaJOpen2
namespace Go.Proofs.Ytmehcogaopackaa
open Go.RowKit
set_option linter.unusedVariables false
set_option linter.unusedSimpArgs false
/-- a slice whose address is that of a block's cell -/
def PlainS (v : Value) : Prop := ∀ a n c, v = .slice (some a) n c → ∃ b off, a = ⟨b, off, none⟩
theorem PlainS.row {w : World} {B : Nat} {e : TypeId} {s : Nat} {v : Value} {n : Nat} {xs : List Value} (h : w.ownsRow B e s v n xs) : PlainS v := by
  intro a m c hv
  rcases h.2 with ⟨e0, _⟩ | ⟨g, cap, cur, e0, _⟩
  · rw [e0] at hv; cases hv
  · rw [e0] at hv
    cases hv
    exact ⟨g, 0, rfl⟩
theorem sizeOfInt (w : World) : (Go.sizeOf 3).run Try.prog w = .ok 1 w := by kernel_rfl
theorem sizeOfEntry (w : World) : (Go.sizeOf 50).run Try.prog w = .ok 3 w := by kernel_rfl
theorem infoInt1 : (Try.prog.info? 3).map (fun i => (i.zero, i.size, i.bytes)) = some (some (.int .i64 0), 1, 8) := by kernel_rfl
theorem intVals_one (l : List Int) : ∀ u ∈ intVals l, u.oneCell' = true := by
  intro u hu
  simp only [intVals, List.mem_map] at hu
  obtain ⟨n, _, rfl⟩ := hu
  rfl
theorem enVals_one (l : List En) : ∀ u ∈ enVals l, u.oneCell' = true := by
  intro u hu
  simp only [enVals, List.mem_flatMap] at hu
  obtain ⟨e, _, hu⟩ := hu
  simp only [List.mem_cons, List.not_mem_nil, or_false] at hu
  rcases hu with rfl | rfl | rfl <;> rfl
set_option maxRecDepth 100000 in
set_option maxHeartbeats 1000000 in
/-- the clone of a slice of no elements, wherever it lies -/
theorem clone_int0 (a : Addr) (c : Nat) (w : World) :
    Calls Try.prog 64 #[.slice (some a) 0 c] w fun e w' => ∃ v', e = .returned v' ∧ w'.ownsRow w.heap.size 3 1 v' 0 [] ∧ Below w.heap.size w w' := by
  obtain ⟨i0, hi, hz0, hz1, hz2⟩ := info_parts infoInt1
  have hq : ∀ w : World, (binOp .eql 26 (.slice (some a) 0 c) (.slice none 0 0)).run Try.prog w = .ok (.bool false) w := fun w => Lib.run_eql_slice_nil w _ _ (some a) 0 c 0 0 Try.underlying26
  go_enter Try.func64, Try.ntmps64
  go_wp2_with (at_builtin; refine wpList_append_own _ rfl _ _ 26 rfl w.heap.size 3 i0 (.int .i64 0) 1 8 Try.underlying26 hi hz0 hz1 hz2 rfl (by decide) _ _ _ rfl (World.ownsRow_made w #[] 0 (Nat.le_refl _) (Nat.zero_le _) (by simp)) a 0 c [] rfl rfl ?qc2 ?qc3 ?qc4 ?qc5 ?qc6 ?_)
  case qc2 => intro j u hj; simp at hj
  case qc3 => intro u hu; simp at hu
  case qc4 => unfold maxLen; omega
  case qc5 => omega
  case qc6 => simp
  intro v' w1 hown hgrow hnil
  go_wp2
  go_ret
  exact ⟨v', rfl, by simpa using hown, ((Below.refl _ w).alloc (Nat.le_refl _) _).grown hgrow (by simp) (by intro k hk; simp [Value.ownBlock] at hk; omega)⟩
set_option maxRecDepth 100000 in
set_option maxHeartbeats 1000000 in
/-- the clone of a slice of no elements, wherever it lies -/
theorem clone_entry0 (a : Addr) (c : Nat) (w : World) :
    Calls Try.prog 36 #[.slice (some a) 0 c] w fun e w' => ∃ v', e = .returned v' ∧ w'.ownsRow w.heap.size 50 3 v' 0 [] ∧ Below w.heap.size w w' := by
  obtain ⟨i0, hi, hz0, hz1, hz2⟩ := info_parts infoEntry
  have hq : ∀ w : World, (binOp .eql 27 (.slice (some a) 0 c) (.slice none 0 0)).run Try.prog w = .ok (.bool false) w := fun w => Lib.run_eql_slice_nil w _ _ (some a) 0 c 0 0 Try.underlying27
  go_enter Try.func36, Try.ntmps36
  go_wp2_with (at_builtin; refine wpList_append_own _ rfl _ _ 27 rfl w.heap.size 50 i0 (.agg #[.int .u64 0, .int .i64 0, .string { data := #[] }]) 3 32 Try.underlying27 hi hz0 hz1 hz2 rfl (by decide) _ _ _ rfl (World.ownsRow_made w #[] 0 (Nat.le_refl _) (Nat.zero_le _) (by simp)) a 0 c [] rfl rfl ?qc2 ?qc3 ?qc4 ?qc5 ?qc6 ?_)
  case qc2 => intro j u hj; simp at hj
  case qc3 => intro u hu; simp at hu
  case qc4 => unfold maxLen; omega
  case qc5 => omega
  case qc6 => simp
  intro v' w1 hown hgrow hnil
  go_wp2
  go_ret
  exact ⟨v', rfl, by simpa using hown, ((Below.refl _ w).alloc (Nat.le_refl _) _).grown hgrow (by simp) (by intro k hk; simp [Value.ownBlock] at hk; omega)⟩
theorem clone_int {W : World} {v : Value} {l : List Int} (h : Cells [] W v l.length (intVals l)) (hl : l.length ≤ 1000000) :
    Calls Try.prog 64 #[v] W fun e W' => ∃ v', e = .returned v' ∧ W'.ownsRow W.heap.size 3 1 v' l.length (intVals l) ∧ Below W.heap.size W W' := by
  obtain ⟨a, cap, rfl, hc, hx⟩ := h
  cases a with
  | none =>
    have h0 : l = [] := by
      cases l with
      | nil => rfl
      | cons x l =>
        obtain ⟨b, off, ha, _⟩ := hx (by rw [intVals_len]; simp)
        cases ha
    subst h0
    refine (Try.slices_Clone_int_nil _ _ W).mono ?_
    rintro e W' ⟨rfl, rfl⟩
    exact ⟨_, rfl, World.ownsRow_nil _ _ _ _, Below.refl _ _⟩
  | some a =>
    by_cases h0 : l = []
    · subst h0
      refine (clone_int0 a cap W).mono ?_
      rintro e W' ⟨v', he, hr, hb⟩
      exact ⟨v', he, hr, hb⟩
    obtain ⟨b, off, ha0, _⟩ := hx (by rw [intVals_len]; have := List.length_pos_iff.2 h0; omega)
    cases ha0
    obtain ⟨i0, hi, hz0, hz1, hz2⟩ := info_parts infoInt1
    refine (Try.slices_Clone_int i0 _ 1 8 hi hz0 hz1 hz2 rfl (by decide) sizeOfInt b off l.length cap (intVals l) W (by rw [intVals_len]; omega) (by unfold maxLen; omega) (by omega) ?_ (intVals_one l)).mono ?_
    · intro j u hu
      obtain ⟨hj, e⟩ := List.getElem?_eq_some_iff.1 hu
      obtain ⟨b', off', ha, _, hcell⟩ := hx (by omega)
      cases ha
      rw [hcell j hj, e]
    · rintro e W' ⟨v', he, hr, _, hb⟩
      exact ⟨v', he, hr, hb⟩
theorem clone_entry {W : World} {v : Value} {l : List En} (h : Cells [] W v l.length (enVals l)) (hl : l.length ≤ 1000000) :
    Calls Try.prog 36 #[v] W fun e W' => ∃ v', e = .returned v' ∧ W'.ownsRow W.heap.size 50 3 v' l.length (enVals l) ∧ Below W.heap.size W W' := by
  obtain ⟨a, cap, rfl, hc, hx⟩ := h
  cases a with
  | none =>
    have h0 : l = [] := by
      cases l with
      | nil => rfl
      | cons x l =>
        obtain ⟨b, off, ha, _⟩ := hx (by rw [enVals_len]; simp)
        cases ha
    subst h0
    refine (Try.slices_Clone_entry_nil _ _ W).mono ?_
    rintro e W' ⟨rfl, rfl⟩
    exact ⟨_, rfl, World.ownsRow_nil _ _ _ _, Below.refl _ _⟩
  | some a =>
    by_cases h0 : l = []
    · subst h0
      refine (clone_entry0 a cap W).mono ?_
      rintro e W' ⟨v', he, hr, hb⟩
      exact ⟨v', he, hr, hb⟩
    obtain ⟨b, off, ha0, _⟩ := hx (by rw [enVals_len]; have := List.length_pos_iff.2 h0; omega)
    cases ha0
    obtain ⟨i0, hi, hz0, hz1, hz2⟩ := info_parts infoEntry
    refine (Try.slices_Clone_entry i0 _ 3 32 hi hz0 hz1 hz2 rfl (by decide) sizeOfEntry b off l.length cap (enVals l) W (by rw [enVals_len]; omega) (by unfold maxLen; omega) (by omega) ?_ (enVals_one l)).mono ?_
    · intro j u hu
      obtain ⟨hj, e⟩ := List.getElem?_eq_some_iff.1 hu
      obtain ⟨b', off', ha, _, hcell⟩ := hx (by omega)
      cases ha
      rw [hcell j hj, e]
    · rintro e W' ⟨v', he, hr, _, hb⟩
      exact ⟨v', he, hr, hb⟩
theorem sizeLog : (Try.prog.info? 29).map (·.size) = some 4 := by kernel_rfl
set_option maxRecDepth 100000 in
set_option maxHeartbeats 4000000 in
theorem clone_any {W : World} (base bterm : Nat) {vc vl : Value} {conf : List Int} {l : List En} (hc : Cells [] W vc conf.length (intVals conf)) (hl : Cells [] W vl l.length (enVals l)) (hn : conf.length ≤ 1000000) (hm : l.length ≤ 1000000) :
    Calls Try.prog 39 #[.agg #[.int .u64 base, .int .u64 bterm, vc, vl]] W fun e W' => ∃ vc' vl', e = .returned (.agg #[.int .u64 base, .int .u64 bterm, vc', vl']) ∧
      W'.ownsRow W.heap.size 3 1 vc' conf.length (intVals conf) ∧ W'.ownsRow W.heap.size 50 3 vl' l.length (enVals l) ∧ Below W.heap.size W W' := by
  obtain ⟨ac, cc, rfl⟩ := hc.form
  obtain ⟨al, cl, rfl⟩ := hl.form
  have HC := hid hc
  have HL := hid hl
  clear hc hl
  go_enter Try.func39, Try.ntmps39
  go_wp2_with fail
  have hb : Below W.heap.size W ((W.alloc (.cells #[.int .u64 base, .int .u64 bterm, .slice ac conf.length cc, .slice al l.length cl] 29)).alloc (.cells #[.int .u64 0, .int .u64 0, .slice none 0 0, .slice none 0 0] 29)) := ((Below.refl _ _).alloc (Nat.le_refl _) _).alloc (by simp) _
  have hk1 := blk_below (heap_alloc_new W (.cells #[.int .u64 base, .int .u64 bterm, .slice ac conf.length cc, .slice al l.length cl] 29)) ((Below.refl _ _).alloc (Nat.le_refl _) (.cells #[.int .u64 0, .int .u64 0, .slice none 0 0, .slice none 0 0] 29))
  have hk2 := heap_alloc_new (W.alloc (.cells #[.int .u64 base, .int .u64 bterm, .slice ac conf.length cc, .slice al l.length cl] 29)) (.cells #[.int .u64 0, .int .u64 0, .slice none 0 0, .slice none 0 0] 29)
  rw [World.size_alloc] at hk2
  generalize (W.alloc (.cells #[.int .u64 base, .int .u64 bterm, .slice ac conf.length cc, .slice al l.length cl] 29)).alloc (.cells #[.int .u64 0, .int .u64 0, .slice none 0 0, .slice none 0 0] 29) = W2 at *
  have HC2 := hid (HC.out.below hb)
  have HL2 := hid (HL.out.below hb)
  have HB2 := hid hb
  have HK1 := hid hk1
  have HK2 := hid hk2
  clear hb hk1 hk2 HC
  refine Calls.mono (clone_int HC2.out hn) ?_
  rintro e w3 ⟨vc', rfl, hr3, hb3⟩
  obtain ⟨ac', cc', rfl⟩ := own_form hr3
  have HK13 := hid (blk_below HK1.out hb3)
  have HK23 := hid (blk_below HK2.out hb3)
  have HL3 := hid (HL2.out.below hb3)
  have HW3 : Hid (W2.heap.size ≤ w3.heap.size) := hb3.size
  have HB3 := hid (HB2.out.trans (hb3.mono HB2.out.size))
  have hk1l : W.heap.size < W2.heap.size := (Array.getElem?_eq_some_iff.1 HK1.out).1
  have hk2l : W.heap.size + 1 < W2.heap.size := (Array.getElem?_eq_some_iff.1 HK2.out).1
  have HR3 := hid hr3
  have c1 := cell_in HK13.out 2 _ rfl
  have f1 := free_in HK13.out 2
  have c3 := cell_in (heap_set HK13.out 2 (.slice ac' conf.length cc')) 3 _ rfl
  clear hr3 hb3 HL2 HC2
  go_wp2_with fail
  have hb4 : Below W.heap.size W (w3.setCell ⟨W.heap.size, 2, none⟩ (.slice ac' conf.length cc')) := HB3.out.trans ((Turn.set (F := [W.heap.size]) w3 W.heap.size 2 _ (by simp)).toBelow HB3.out.size (by simp))
  have HB4 := hid hb4
  have HK14 := hid (heap_set HK13.out 2 (.slice ac' conf.length cc'))
  have HK24 : Hid ((w3.setCell ⟨W.heap.size, 2, none⟩ (.slice ac' conf.length cc')).heap[W.heap.size + 1]? = _) := hid ((Below.heap_setCell _ _ _ _ (by simp)).trans HK23.out)
  have HL4 := hid (HL.out.below hb4)
  have HR4 := hid (HR3.out.kept (grown_set w3 W.heap.size 2 (.slice ac' conf.length cc')) (.inr (fun e => own_ne HR3.out HK13.out (fun cur e => by cases e) e.symm)))
  have HZ3 := hid (show W.heap.size ≤ W2.heap.size from HB2.out.size)
  have hz4 : (w3.setCell ⟨W.heap.size, 2, none⟩ (.slice ac' conf.length cc')).heap.size = w3.heap.size := by simp [World.setCell]
  have HZ4 := hid hz4
  clear hb4 hz4 c1 f1 c3 HK13 HK23 HL3 HB3 HR3
  generalize w3.setCell ⟨W.heap.size, 2, none⟩ (.slice ac' conf.length cc') = w4 at *
  refine Calls.mono (clone_entry HL4.out hm) ?_
  rintro e w5 ⟨vl', rfl, hr5, hb5⟩
  obtain ⟨al', cl', rfl⟩ := own_form hr5
  have HK15 := hid (blk_below HK14.out hb5)
  have HK25 := hid (blk_below HK24.out hb5)
  have HR5 := hid hr5
  have HR35 := hid (ownsRow_of_block HR4.out fun r hr => hb5.block r (HR4.out.lt r hr).2)
  have HB5 := hid (HB4.out.trans (hb5.mono HB4.out.size))
  have c3 := cell_in HK15.out 3 _ rfl
  have f3 := free_in HK15.out 3
  have HK16 := hid (heap_set HK15.out 3 (.slice al' l.length cl'))
  have HK26 : Hid ((w5.setCell ⟨W.heap.size, 3, none⟩ (.slice al' l.length cl')).heap[W.heap.size + 1]? = _) := hid ((Below.heap_setCell _ _ _ _ (by simp)).trans HK25.out)
  have HK27 := hid (setRow_heap _ _ _ #[.int .u64 base, .int .u64 bterm, .slice ac' conf.length cc', .slice al' l.length cl'] _ (0, 0) HK26.out)
  clear hr5 hb5 HL4 HK14 HK24
  go_wp2_with (first
    | (refine wpList_load_row rfl 29 _ rfl W.heap.size (by rfl) 29 _ (0, 0) _ HK16.out Try.underlying29 rfl sizeLog ?_)
    | (refine wpList_store_row rfl 29 _ _ rfl (W.heap.size + 1) #[.int .u64 base, .int .u64 bterm, .slice ac' conf.length cc', .slice al' l.length cl'] (by rfl) (by rfl) 29 _ HK26.out sizeLog rfl (by simp [Value.oneCell']) ?_))
  have hk2 : Kept2 W.heap.size (W.heap.size + 1) w5 ((w5.setCell ⟨W.heap.size, 3, none⟩ (.slice al' l.length cl')).setRow (W.heap.size + 1) #[.int .u64 base, .int .u64 bterm, .slice ac' conf.length cc', .slice al' l.length cl']) :=
    (kept2_swap ((Kept2.refl (W.heap.size + 1) W.heap.size w5).set 3 (.slice al' l.length cl'))).row _
  have hz := HZ3.out
  have hz3 := HW3.out
  have hz4 := HZ4.out
  refine ⟨rfl, _, results_cell_row rfl _ _ (W.heap.size + 1) _ _ (0, 0) _ rfl HK27.out Try.underlying29 rfl sizeLog, _, _, rfl, ?_, ?_, kept2_to_below HB5.out hk2 HB5.out.size (Nat.le_refl _) (by omega)⟩
  · exact ownsRow_mono (row_kept2 HR35.out hk2 (own_ne HR35.out HK15.out (fun cur e => by cases e)) (own_ne HR35.out HK25.out (fun cur e => by cases e))) hz
  · exact ownsRow_mono (row_kept2 HR5.out hk2 (own_ne HR5.out HK15.out (fun cur e => by cases e)) (own_ne HR5.out HK25.out (fun cur e => by cases e))) (by omega)
end Go.Proofs.Ytmehcogaopackaa
