/-
  The walks of the closures of the journal's Append and Rebase; slices.IndexFunc, slices.ContainsFunc with each. (Several texts in one.)
-/
import Derived.Test.YtmehcogaopackaaGreatJOpen2
/- The walks of the journal's clone, Hard, Log, Image; disk.New; of the calls on a journal that is none. -/
namespace Go.Proofs.YtmehcogaopackaaGreat
open Go.RowKit
set_option linter.unusedVariables false
set_option linter.unusedSimpArgs false
/-- a slice whose address is that of a block's cell -/
def PlainS (v : Value) : Prop := ∀ a n c, v = .slice (some a) n c → ∃ b off, a = ⟨b, off, none⟩
theorem PlainS.row {w : World} {B : Nat} {e : TypeId} {s : Nat} {v : Value} {n : Nat} {xs : List Value} (h : w.ownsRow B e s v n xs) : PlainS v := by
  intro a m c hv
  rcases h.2 with ⟨e0, _⟩ | ⟨g, cap, cur, e0, _⟩
  · rw [e0] at hv; cases hv
  · rw [e0] at hv
    cases hv
    exact ⟨g, 0, rfl⟩
theorem sizeOfInt (w : World) : (Go.sizeOf 3).run Tryz.prog w = .ok 1 w := by kernel_rfl
theorem sizeOfEntry (w : World) : (Go.sizeOf 116).run Tryz.prog w = .ok 3 w := by kernel_rfl
theorem infoInt1 : (Tryz.prog.info? 3).map (fun i => (i.zero, i.size, i.bytes)) = some (some (.int .i64 0), 1, 8) := by kernel_rfl
theorem intVals_one (l : List Int) : ∀ u ∈ intVals l, u.oneCell' = true := by
  intro u hu
  simp only [intVals, List.mem_map] at hu
  obtain ⟨n, _, rfl⟩ := hu
  rfl
theorem enVals_one (l : List En) : ∀ u ∈ enVals l, u.oneCell' = true := by
  intro u hu
  simp only [enVals, List.mem_flatMap] at hu
  obtain ⟨e, _, hu⟩ := hu
  simp only [List.mem_cons, List.not_mem_nil, or_false] at hu
  rcases hu with rfl | rfl | rfl <;> rfl
set_option maxRecDepth 100000 in
set_option maxHeartbeats 1000000 in
/-- the clone of a slice of no elements, wherever it lies -/
theorem clone_int0 (a : Addr) (c : Nat) (w : World) :
    Calls Tryz.prog 104 #[.slice (some a) 0 c] w fun e w' => ∃ v', e = .returned v' ∧ w'.ownsRow w.heap.size 3 1 v' 0 [] ∧ Below w.heap.size w w' := by
  obtain ⟨i0, hi, hz0, hz1, hz2⟩ := info_parts infoInt1
  have hq : ∀ w : World, (binOp .eql 46 (.slice (some a) 0 c) (.slice none 0 0)).run Tryz.prog w = .ok (.bool false) w := fun w => Lib.run_eql_slice_nil w _ _ (some a) 0 c 0 0 Tryz.underlying46
  go_enter Tryz.func104, Tryz.ntmps104
  go_wp2_with (at_builtin; refine wpList_append_own _ rfl _ _ 46 rfl w.heap.size 3 i0 (.int .i64 0) 1 8 Tryz.underlying46 hi hz0 hz1 hz2 rfl (by decide) _ _ _ rfl (World.ownsRow_made w #[] 0 (Nat.le_refl _) (Nat.zero_le _) (by simp)) a 0 c [] rfl rfl ?qc2 ?qc3 ?qc4 ?qc5 ?qc6 ?_)
  case qc2 => intro j u hj; simp at hj
  case qc3 => intro u hu; simp at hu
  case qc4 => unfold maxLen; omega
  case qc5 => omega
  case qc6 => simp
  intro v' w1 hown hgrow hnil
  go_wp2
  go_ret
  exact ⟨v', rfl, by simpa using hown, ((Below.refl _ w).alloc (Nat.le_refl _) _).grown hgrow (by simp) (by intro k hk; simp [Value.ownBlock] at hk; omega)⟩
set_option maxRecDepth 100000 in
set_option maxHeartbeats 1000000 in
/-- the clone of a slice of no elements, wherever it lies -/
theorem clone_entry0 (a : Addr) (c : Nat) (w : World) :
    Calls Tryz.prog 68 #[.slice (some a) 0 c] w fun e w' => ∃ v', e = .returned v' ∧ w'.ownsRow w.heap.size 116 3 v' 0 [] ∧ Below w.heap.size w w' := by
  obtain ⟨i0, hi, hz0, hz1, hz2⟩ := info_parts infoEntry
  have hq : ∀ w : World, (binOp .eql 47 (.slice (some a) 0 c) (.slice none 0 0)).run Tryz.prog w = .ok (.bool false) w := fun w => Lib.run_eql_slice_nil w _ _ (some a) 0 c 0 0 Tryz.underlying47
  go_enter Tryz.func68, Tryz.ntmps68
  go_wp2_with (at_builtin; refine wpList_append_own _ rfl _ _ 47 rfl w.heap.size 116 i0 (.agg #[.int .u64 0, .int .i64 0, .string { data := #[] }]) 3 32 Tryz.underlying47 hi hz0 hz1 hz2 rfl (by decide) _ _ _ rfl (World.ownsRow_made w #[] 0 (Nat.le_refl _) (Nat.zero_le _) (by simp)) a 0 c [] rfl rfl ?qc2 ?qc3 ?qc4 ?qc5 ?qc6 ?_)
  case qc2 => intro j u hj; simp at hj
  case qc3 => intro u hu; simp at hu
  case qc4 => unfold maxLen; omega
  case qc5 => omega
  case qc6 => simp
  intro v' w1 hown hgrow hnil
  go_wp2
  go_ret
  exact ⟨v', rfl, by simpa using hown, ((Below.refl _ w).alloc (Nat.le_refl _) _).grown hgrow (by simp) (by intro k hk; simp [Value.ownBlock] at hk; omega)⟩
theorem clone_int {W : World} {v : Value} {l : List Int} (h : Cells [] W v l.length (intVals l)) (hl : l.length ≤ 1000000) :
    Calls Tryz.prog 104 #[v] W fun e W' => ∃ v', e = .returned v' ∧ W'.ownsRow W.heap.size 3 1 v' l.length (intVals l) ∧ Below W.heap.size W W' := by
  obtain ⟨a, cap, rfl, hc, hx⟩ := h
  cases a with
  | none =>
    have h0 : l = [] := by
      cases l with
      | nil => rfl
      | cons x l =>
        obtain ⟨b, off, ha, _⟩ := hx (by rw [intVals_len]; simp)
        cases ha
    subst h0
    refine (Tryz.slices_Clone_int_nil _ _ W).mono ?_
    rintro e W' ⟨rfl, rfl⟩
    exact ⟨_, rfl, World.ownsRow_nil _ _ _ _, Below.refl _ _⟩
  | some a =>
    by_cases h0 : l = []
    · subst h0
      refine (clone_int0 a cap W).mono ?_
      rintro e W' ⟨v', he, hr, hb⟩
      exact ⟨v', he, hr, hb⟩
    obtain ⟨b, off, ha0, _⟩ := hx (by rw [intVals_len]; have := List.length_pos_iff.2 h0; omega)
    cases ha0
    obtain ⟨i0, hi, hz0, hz1, hz2⟩ := info_parts infoInt1
    refine (Tryz.slices_Clone_int i0 _ 1 8 hi hz0 hz1 hz2 rfl (by decide) sizeOfInt b off l.length cap (intVals l) W (by rw [intVals_len]; omega) (by unfold maxLen; omega) (by omega) ?_ (intVals_one l)).mono ?_
    · intro j u hu
      obtain ⟨hj, e⟩ := List.getElem?_eq_some_iff.1 hu
      obtain ⟨b', off', ha, _, hcell⟩ := hx (by omega)
      cases ha
      rw [hcell j hj, e]
    · rintro e W' ⟨v', he, hr, _, hb⟩
      exact ⟨v', he, hr, hb⟩
theorem clone_entry {W : World} {v : Value} {l : List En} (h : Cells [] W v l.length (enVals l)) (hl : l.length ≤ 1000000) :
    Calls Tryz.prog 68 #[v] W fun e W' => ∃ v', e = .returned v' ∧ W'.ownsRow W.heap.size 116 3 v' l.length (enVals l) ∧ Below W.heap.size W W' := by
  obtain ⟨a, cap, rfl, hc, hx⟩ := h
  cases a with
  | none =>
    have h0 : l = [] := by
      cases l with
      | nil => rfl
      | cons x l =>
        obtain ⟨b, off, ha, _⟩ := hx (by rw [enVals_len]; simp)
        cases ha
    subst h0
    refine (Tryz.slices_Clone_entry_nil _ _ W).mono ?_
    rintro e W' ⟨rfl, rfl⟩
    exact ⟨_, rfl, World.ownsRow_nil _ _ _ _, Below.refl _ _⟩
  | some a =>
    by_cases h0 : l = []
    · subst h0
      refine (clone_entry0 a cap W).mono ?_
      rintro e W' ⟨v', he, hr, hb⟩
      exact ⟨v', he, hr, hb⟩
    obtain ⟨b, off, ha0, _⟩ := hx (by rw [enVals_len]; have := List.length_pos_iff.2 h0; omega)
    cases ha0
    obtain ⟨i0, hi, hz0, hz1, hz2⟩ := info_parts infoEntry
    refine (Tryz.slices_Clone_entry i0 _ 3 32 hi hz0 hz1 hz2 rfl (by decide) sizeOfEntry b off l.length cap (enVals l) W (by rw [enVals_len]; omega) (by unfold maxLen; omega) (by omega) ?_ (enVals_one l)).mono ?_
    · intro j u hu
      obtain ⟨hj, e⟩ := List.getElem?_eq_some_iff.1 hu
      obtain ⟨b', off', ha, _, hcell⟩ := hx (by omega)
      cases ha
      rw [hcell j hj, e]
    · rintro e W' ⟨v', he, hr, _, hb⟩
      exact ⟨v', he, hr, hb⟩
theorem sizeLog : (Tryz.prog.info? 49).map (·.size) = some 4 := by kernel_rfl
set_option maxRecDepth 100000 in
set_option maxHeartbeats 4000000 in
theorem clone_any {W : World} (base bterm : Nat) {vc vl : Value} {conf : List Int} {l : List En} (hc : Cells [] W vc conf.length (intVals conf)) (hl : Cells [] W vl l.length (enVals l)) (hn : conf.length ≤ 1000000) (hm : l.length ≤ 1000000) :
    Calls Tryz.prog 69 #[.agg #[.int .u64 base, .int .u64 bterm, vc, vl]] W fun e W' => ∃ vc' vl', e = .returned (.agg #[.int .u64 base, .int .u64 bterm, vc', vl']) ∧
      W'.ownsRow W.heap.size 3 1 vc' conf.length (intVals conf) ∧ W'.ownsRow W.heap.size 116 3 vl' l.length (enVals l) ∧ Below W.heap.size W W' := by
  obtain ⟨ac, cc, rfl⟩ := hc.form
  obtain ⟨al, cl, rfl⟩ := hl.form
  have HC := hid hc
  have HL := hid hl
  clear hc hl
  go_enter Tryz.func69, Tryz.ntmps69
  go_wp2_with fail
  have hb : Below W.heap.size W ((W.alloc (.cells #[.int .u64 base, .int .u64 bterm, .slice ac conf.length cc, .slice al l.length cl] 49)).alloc (.cells #[.int .u64 0, .int .u64 0, .slice none 0 0, .slice none 0 0] 49)) := ((Below.refl _ _).alloc (Nat.le_refl _) _).alloc (by simp) _
  have hk1 := blk_below (heap_alloc_new W (.cells #[.int .u64 base, .int .u64 bterm, .slice ac conf.length cc, .slice al l.length cl] 49)) ((Below.refl _ _).alloc (Nat.le_refl _) (.cells #[.int .u64 0, .int .u64 0, .slice none 0 0, .slice none 0 0] 49))
  have hk2 := heap_alloc_new (W.alloc (.cells #[.int .u64 base, .int .u64 bterm, .slice ac conf.length cc, .slice al l.length cl] 49)) (.cells #[.int .u64 0, .int .u64 0, .slice none 0 0, .slice none 0 0] 49)
  rw [World.size_alloc] at hk2
  generalize (W.alloc (.cells #[.int .u64 base, .int .u64 bterm, .slice ac conf.length cc, .slice al l.length cl] 49)).alloc (.cells #[.int .u64 0, .int .u64 0, .slice none 0 0, .slice none 0 0] 49) = W2 at *
  have HC2 := hid (HC.out.below hb)
  have HL2 := hid (HL.out.below hb)
  have HB2 := hid hb
  have HK1 := hid hk1
  have HK2 := hid hk2
  clear hb hk1 hk2 HC
  refine Calls.mono (clone_int HC2.out hn) ?_
  rintro e w3 ⟨vc', rfl, hr3, hb3⟩
  obtain ⟨ac', cc', rfl⟩ := own_form hr3
  have HK13 := hid (blk_below HK1.out hb3)
  have HK23 := hid (blk_below HK2.out hb3)
  have HL3 := hid (HL2.out.below hb3)
  have HW3 : Hid (W2.heap.size ≤ w3.heap.size) := hb3.size
  have HB3 := hid (HB2.out.trans (hb3.mono HB2.out.size))
  have hk1l : W.heap.size < W2.heap.size := (Array.getElem?_eq_some_iff.1 HK1.out).1
  have hk2l : W.heap.size + 1 < W2.heap.size := (Array.getElem?_eq_some_iff.1 HK2.out).1
  have HR3 := hid hr3
  have c1 := cell_in HK13.out 2 _ rfl
  have f1 := free_in HK13.out 2
  have c3 := cell_in (heap_set HK13.out 2 (.slice ac' conf.length cc')) 3 _ rfl
  clear hr3 hb3 HL2 HC2
  go_wp2_with fail
  have hb4 : Below W.heap.size W (w3.setCell ⟨W.heap.size, 2, none⟩ (.slice ac' conf.length cc')) := HB3.out.trans ((Turn.set (F := [W.heap.size]) w3 W.heap.size 2 _ (by simp)).toBelow HB3.out.size (by simp))
  have HB4 := hid hb4
  have HK14 := hid (heap_set HK13.out 2 (.slice ac' conf.length cc'))
  have HK24 : Hid ((w3.setCell ⟨W.heap.size, 2, none⟩ (.slice ac' conf.length cc')).heap[W.heap.size + 1]? = _) := hid ((Below.heap_setCell _ _ _ _ (by simp)).trans HK23.out)
  have HL4 := hid (HL.out.below hb4)
  have HR4 := hid (HR3.out.kept (grown_set w3 W.heap.size 2 (.slice ac' conf.length cc')) (.inr (fun e => own_ne HR3.out HK13.out (fun cur e => by cases e) e.symm)))
  have HZ3 := hid (show W.heap.size ≤ W2.heap.size from HB2.out.size)
  have hz4 : (w3.setCell ⟨W.heap.size, 2, none⟩ (.slice ac' conf.length cc')).heap.size = w3.heap.size := by simp [World.setCell]
  have HZ4 := hid hz4
  clear hb4 hz4 c1 f1 c3 HK13 HK23 HL3 HB3 HR3
  generalize w3.setCell ⟨W.heap.size, 2, none⟩ (.slice ac' conf.length cc') = w4 at *
  refine Calls.mono (clone_entry HL4.out hm) ?_
  rintro e w5 ⟨vl', rfl, hr5, hb5⟩
  obtain ⟨al', cl', rfl⟩ := own_form hr5
  have HK15 := hid (blk_below HK14.out hb5)
  have HK25 := hid (blk_below HK24.out hb5)
  have HR5 := hid hr5
  have HR35 := hid (ownsRow_of_block HR4.out fun r hr => hb5.block r (HR4.out.lt r hr).2)
  have HB5 := hid (HB4.out.trans (hb5.mono HB4.out.size))
  have c3 := cell_in HK15.out 3 _ rfl
  have f3 := free_in HK15.out 3
  have HK16 := hid (heap_set HK15.out 3 (.slice al' l.length cl'))
  have HK26 : Hid ((w5.setCell ⟨W.heap.size, 3, none⟩ (.slice al' l.length cl')).heap[W.heap.size + 1]? = _) := hid ((Below.heap_setCell _ _ _ _ (by simp)).trans HK25.out)
  have HK27 := hid (setRow_heap _ _ _ #[.int .u64 base, .int .u64 bterm, .slice ac' conf.length cc', .slice al' l.length cl'] _ (0, 0) HK26.out)
  clear hr5 hb5 HL4 HK14 HK24
  go_wp2_with (first
    | (refine wpList_load_row rfl 49 _ rfl W.heap.size (by rfl) 49 _ (0, 0) _ HK16.out Tryz.underlying49 rfl sizeLog ?_)
    | (refine wpList_store_row rfl 49 _ _ rfl (W.heap.size + 1) #[.int .u64 base, .int .u64 bterm, .slice ac' conf.length cc', .slice al' l.length cl'] (by rfl) (by rfl) 49 _ HK26.out sizeLog rfl (by simp [Value.oneCell']) ?_))
  have hk2 : Kept2 W.heap.size (W.heap.size + 1) w5 ((w5.setCell ⟨W.heap.size, 3, none⟩ (.slice al' l.length cl')).setRow (W.heap.size + 1) #[.int .u64 base, .int .u64 bterm, .slice ac' conf.length cc', .slice al' l.length cl']) :=
    (kept2_swap ((Kept2.refl (W.heap.size + 1) W.heap.size w5).set 3 (.slice al' l.length cl'))).row _
  have hz := HZ3.out
  have hz3 := HW3.out
  have hz4 := HZ4.out
  refine ⟨rfl, _, results_cell_row rfl _ _ (W.heap.size + 1) _ _ (0, 0) _ rfl HK27.out Tryz.underlying49 rfl sizeLog, _, _, rfl, ?_, ?_, kept2_to_below HB5.out hk2 HB5.out.size (Nat.le_refl _) (by omega)⟩
  · exact ownsRow_mono (row_kept2 HR35.out hk2 (own_ne HR35.out HK15.out (fun cur e => by cases e)) (own_ne HR35.out HK25.out (fun cur e => by cases e))) hz
  · exact ownsRow_mono (row_kept2 HR5.out hk2 (own_ne HR5.out HK15.out (fun cur e => by cases e)) (own_ne HR5.out HK25.out (fun cur e => by cases e))) (by omega)
end Go.Proofs.YtmehcogaopackaaGreat
/- The walks of the journal's Hard, Log, Image, of the law's state; disk.New; the calls on a journal that is none. -/
namespace Go.Proofs.YtmehcogaopackaaGreat
open Go.RowKit
set_option linter.unusedVariables false
set_option linter.unusedSimpArgs false
theorem sizeHard : (Tryz.prog.info? 45).map (·.size) = some 3 := by kernel_rfl
theorem JnAt.cells {W : World} {j p : Nat} {G : List Nat} {d : Ds} {S : Js} (h : JnAt W j p G d S) : ∃ z vc vl, W.heap[j]? = some (.cells (jnCells p S z vc vl) 107) ∧ W.ownsRow 0 3 1 vc S.log.conf.length (intVals S.log.conf) ∧ W.ownsRow 0 116 3 vl S.log.l.length (enVals S.log.l) := by
  obtain ⟨F, z, vc, vl, h1, _, h3, h4, _⟩ := h
  exact ⟨z, vc, vl, h1, h3, h4⟩
theorem JnAt.ok {W : World} {j p : Nat} {G : List Nat} {d : Ds} {S : Js} (h : JnAt W j p G d S) : JsOk S ∧ S.log.l.length ≤ 1000000 := by
  obtain ⟨F, z, vc, vl, h1, h2, h3, h4, h5, h6, h6', _⟩ := h
  exact ⟨h5, h6'⟩
theorem JnAt.lt {W : World} {j p : Nat} {G : List Nat} {d : Ds} {S : Js} (h : JnAt W j p G d S) : ∀ b ∈ G, b < W.heap.size := by
  obtain ⟨F, z, vc, vl, h1, h2, h3, h4, h5, h6, h6', h7, h8, h9, h10, h11, h12⟩ := h
  exact h12
set_option maxRecDepth 100000 in
set_option maxHeartbeats 4000000 in
theorem jhard_any {W : World} {j p : Nat} {G : List Nat} {d : Ds} {S : Js} (h : JnAt W j p G d S) :
    Calls Tryz.prog 23 #[.pointer (some ⟨j, 0, none⟩)] W fun e W' => e = .returned (.agg #[.int .u64 S.hard.term, .int .i64 S.hard.vote, .int .u64 S.hard.life]) ∧ Below W.heap.size W W' := by
  obtain ⟨z, vc, vl, h1, _, _⟩ := h.cells
  have h2 := blk_below h1 ((Below.refl _ _).alloc (Nat.le_refl _) (.cells #[.int .u64 0, .int .i64 0, .int .u64 0] 45))
  have c1 := cell_in h2 1 (.int .u64 S.hard.term) rfl
  have c2 := cell_in h2 2 (.int .i64 S.hard.vote) rfl
  have c3 := cell_in h2 3 (.int .u64 S.hard.life) rfl
  have hk := heap_alloc_new W (.cells #[.int .u64 0, .int .i64 0, .int .u64 0] 45)
  have HB : Hid (Below W.heap.size W ((W.alloc (.cells #[.int .u64 0, .int .i64 0, .int .u64 0] 45)).setRow W.heap.size #[.int .u64 S.hard.term, .int .i64 S.hard.vote, .int .u64 S.hard.life])) := below_row ((Below.refl _ _).alloc (Nat.le_refl _) _) (Nat.le_refl _) _
  have HK := hid (setRow_heap _ _ _ #[.int .u64 S.hard.term, .int .i64 S.hard.vote, .int .u64 S.hard.life] _ (0, 0) hk)
  have HK0 := hid hk
  clear h1 h2 hk h
  go_enter Tryz.func23, Tryz.ntmps23
  go_wp2_with (refine wpList_store_row rfl 45 _ _ rfl W.heap.size #[.int .u64 S.hard.term, .int .i64 S.hard.vote, .int .u64 S.hard.life] (by rfl) (by rfl) 45 _ HK0.out sizeHard rfl (by simp [Value.oneCell']) ?_)
  exact ⟨rfl, _, results_cell_row rfl _ _ W.heap.size _ _ (0, 0) _ rfl HK.out Tryz.underlying45 rfl sizeHard, rfl, HB.out⟩
set_option maxRecDepth 100000 in
set_option maxHeartbeats 4000000 in
theorem jimage_any {W : World} {j p : Nat} {G : List Nat} {d : Ds} {S : Js} (h : JnAt W j p G d S) :
    Calls Tryz.prog 29 #[.pointer (some ⟨j, 0, none⟩)] W fun e W' => e = .returned (.string (str S.image)) ∧ Below W.heap.size W W' := by
  obtain ⟨z, vc, vl, h1, _, _⟩ := h.cells
  have c8 := cell_in h1 8 (.string (str S.image)) rfl
  clear h1 h
  go_enter Tryz.func29, Tryz.ntmps29
  go_wp2_with fail
  go_ret
  exact ⟨rfl, Below.refl _ _⟩
set_option maxRecDepth 100000 in
set_option maxHeartbeats 4000000 in
theorem jlog_any {W : World} {j p : Nat} {G : List Nat} {d : Ds} {S : Js} (h : JnAt W j p G d S) :
    Calls Tryz.prog 28 #[.pointer (some ⟨j, 0, none⟩)] W fun e W' => ∃ vc' vl', e = .returned (.agg #[.int .u64 S.log.base, .int .u64 S.log.bterm, vc', vl']) ∧
      W'.ownsRow W.heap.size 3 1 vc' S.log.conf.length (intVals S.log.conf) ∧ W'.ownsRow W.heap.size 116 3 vl' S.log.l.length (enVals S.log.l) ∧ Below W.heap.size W W' := by
  have hok := h.ok
  have hcl := members_len _ hok.1.2.2.2.2.2.1
  obtain ⟨z, vc, vl, h1, hr1, hr2⟩ := h.cells
  have hba : Below W.heap.size W (W.alloc (.cells #[.int .u64 0, .int .u64 0, .slice none 0 0, .slice none 0 0] 49)) := (Below.refl _ _).alloc (Nat.le_refl _) _
  have h2 := blk_below h1 hba
  have HC := hid (clone_any S.log.base S.log.bterm ((Cells.of_row (D := []) hr1 (by simp)).below hba) ((Cells.of_row (D := []) hr2 (by simp)).below hba) (by omega) hok.2)
  obtain ⟨ac, cc, rfl⟩ := own_form hr1
  obtain ⟨al, cl, rfl⟩ := own_form hr2
  have c4 := cell_in h2 4 (.int .u64 S.log.base) rfl
  have c5 := cell_in h2 5 (.int .u64 S.log.bterm) rfl
  have c6 := cell_in h2 6 (.slice ac S.log.conf.length cc) rfl
  have c7 := cell_in h2 7 (.slice al S.log.l.length cl) rfl
  have HB := hid hba
  have HK := hid (heap_alloc_new W (.cells #[.int .u64 0, .int .u64 0, .slice none 0 0, .slice none 0 0] 49))
  clear h1 h2 h hr1 hr2 hba
  go_enter Tryz.func28, Tryz.ntmps28
  go_wp2_with fail
  refine Calls.mono HC.out ?_
  rintro e w2 ⟨vc', vl', rfl, hr1, hr2, hb2⟩
  obtain ⟨ac', cc', rfl⟩ := own_form hr1
  obtain ⟨al', cl', rfl⟩ := own_form hr2
  have HK2 := hid (blk_below HK.out hb2)
  have HK3 := hid (setRow_heap _ _ _ #[.int .u64 S.log.base, .int .u64 S.log.bterm, .slice ac' S.log.conf.length cc', .slice al' S.log.l.length cl'] _ (0, 0) HK2.out)
  have HB2 := hid (HB.out.trans (hb2.mono HB.out.size))
  have HR1 := hid hr1
  have HR2 := hid hr2
  clear hr1 hr2 hb2 c4 c5 c6 c7
  go_wp2_with (refine wpList_store_row rfl 49 _ _ rfl W.heap.size #[.int .u64 S.log.base, .int .u64 S.log.bterm, .slice ac' S.log.conf.length cc', .slice al' S.log.l.length cl'] (by rfl) (by rfl) 49 _ HK2.out sizeLog rfl (by simp [Value.oneCell']) ?_)
  have hz : W.heap.size ≤ (W.alloc (.cells #[.int .u64 0, .int .u64 0, .slice none 0 0, .slice none 0 0] 49)).heap.size := by simp
  have hk : Kept2 W.heap.size W.heap.size w2 (w2.setRow W.heap.size #[.int .u64 S.log.base, .int .u64 S.log.bterm, .slice ac' S.log.conf.length cc', .slice al' S.log.l.length cl']) := (Kept2.refl _ _ _).row _
  have n1 := own_ne HR1.out HK2.out (fun cur e => by cases e)
  have n2 := own_ne HR2.out HK2.out (fun cur e => by cases e)
  exact ⟨rfl, _, results_cell_row rfl _ _ W.heap.size _ _ (0, 0) _ rfl HK3.out Tryz.underlying49 rfl sizeLog, _, _, rfl, ownsRow_mono (row_kept2 HR1.out hk n1 n1) hz, ownsRow_mono (row_kept2 HR2.out hk n2 n2) hz, below_row HB2.out (Nat.le_refl _) _⟩
end Go.Proofs.YtmehcogaopackaaGreat
/- The walks of the closures of the journal's Append and Rebase; slices.IndexFunc, slices.ContainsFunc with each. -/
namespace Go.Proofs.YtmehcogaopackaaGreat
open Go.RowKit
set_option linter.unusedVariables false
set_option linter.unusedSimpArgs false
theorem sizeEn : (Tryz.prog.info? 116).map (·.size) = some 3 := by kernel_rfl
/-- has a list an entry that may not be -/
def anyBad (l : List En) : Bool := l.any fun e => !mayEn e
theorem anyBad_false {l : List En} (h : anyBad l = false) : ∀ e ∈ l, mayEn e = true := by
  intro e he
  unfold anyBad at h
  rw [List.any_eq_false] at h
  have := h e he
  simpa using this
theorem anyBad_drop {l : List En} {q : Nat} (hq : q < l.length) : anyBad (l.drop q) = (!mayEn l[q] || anyBad (l.drop (q + 1))) := by
  unfold anyBad
  rw [List.drop_eq_getElem_cons hq, List.any_cons]
theorem enVals_cell (l : List En) (q : Nat) (hq : q < l.length) : (enVals l)[3 * q]? = some (.int .u64 l[q].term) ∧ (enVals l)[3 * q + 1]? = some (.int .i64 l[q].kind) ∧ (enVals l)[3 * q + 2]? = some (.string (str l[q].data)) := by
  induction l generalizing q with
  | nil => simp at hq
  | cons a l ih =>
    cases q with
    | zero => exact ⟨rfl, rfl, rfl⟩
    | succ q =>
      have h := ih q (by simpa using hq)
      have hc : ∀ k, (enVals (a :: l))[3 * (q + 1) + k]? = (enVals l)[3 * q + k]? := fun k => by
        show ([.int .u64 a.term, .int .i64 a.kind, .string (str a.data)] ++ enVals l)[3 * (q + 1) + k]? = _
        rw [List.getElem?_append_right (by simp; omega)]
        congr 1
        simp
        omega
      exact ⟨(hc 0).trans h.1, (hc 1).trans h.2.1, (hc 2).trans h.2.2⟩
set_option maxRecDepth 100000 in
set_option maxHeartbeats 2000000 in
theorem badA_any (e : En) (hd : e.data.length ≤ maxLen) (w : World) :
    Calls Tryz.prog 65 #[.agg #[.int .u64 e.term, .int .i64 e.kind, .string (str e.data)]] w fun x w' => x = .returned (.bool (!mayEn e)) ∧ Below w.heap.size w w' := by
  have hb : Below w.heap.size w (w.alloc (.cells #[.int .u64 e.term, .int .i64 e.kind, .string (str e.data)] 116)) := (Below.refl _ _).alloc (Nat.le_refl _) _
  have hk := heap_alloc_new w (.cells #[.int .u64 e.term, .int .i64 e.kind, .string (str e.data)] 116)
  have HM := hid (may_en e hd (w.alloc (.cells #[.int .u64 e.term, .int .i64 e.kind, .string (str e.data)] 116)))
  have hnot : ∀ (x : Bool) (w : World), (Op.unary .not (.bool x)).run Tryz.prog w = .ok (.bool (!x)) w := fun _ _ => rfl
  have HB := hid hb
  have HK := hid hk
  clear hb hk
  generalize mayEn e = m at *
  go_enter Tryz.func65, Tryz.ntmps65
  go_wp2_with (refine wpList_load_row rfl 116 _ rfl w.heap.size (by rfl) 116 _ (0, 0) _ HK.out Tryz.underlying116 rfl sizeEn ?_)
  refine Calls.mono HM.out ?_
  rintro e w2 ⟨rfl, hb2⟩
  have HB2 := hid (HB.out.trans (hb2.mono HB.out.size))
  clear hb2
  go_wp2_with fail
  go_ret
  exact ⟨rfl, HB2.out⟩
set_option maxRecDepth 100000 in
set_option maxHeartbeats 4000000 in
theorem indexA_any {l : List En} {v : Value} {W : World} (hv : Cells [] W v l.length (enVals l)) (hl : l.length ≤ 1000000) (hd : ∀ e ∈ l, e.data.length ≤ maxLen) :
    Calls Tryz.prog 103 #[v, .func (.func 65) #[] #[]] W fun x W' => (∃ n : Int, x = .returned (.int .i64 n) ∧ decide (0 ≤ n) = anyBad l) ∧ Below W.heap.size W W' := by
  obtain ⟨a, cap, rfl⟩ := hv.form
  obtain ⟨_, hcap, hcell⟩ := hv.at
  have HX := hid hcell
  clear hcell hv
  go_enter Tryz.func103, Tryz.ntmps103
  go_wp2_with fail
  go_loopw [8] (fun i wr => ∃ q : Nat, i = .int .i64 q ∧ q ≤ l.length ∧ Below W.heap.size W wr ∧ Hid (anyBad l = anyBad (l.drop q))) (fun i _ => l.length - (intOf i).toNat)
  case atStart => exact ⟨0, rfl, Nat.zero_le _, Below.refl _ _, rfl⟩
  case round =>
    obtain ⟨q, rfl, hq, hb, HR⟩ := hrel
    by_cases hlt : q < l.length
    · obtain ⟨b, off, rfl, hcell⟩ := HX.out (by rw [enVals_len]; omega)
      have he := enVals_cell l q hlt
      have c0 := hcell wr hb _ _ he.1
      have c1 := hcell wr hb _ _ he.2.1
      have c2 := hcell wr hb _ _ he.2.2
      have hdq := hd l[q] (List.getElem_mem hlt)
      have HD := hid (anyBad_drop hlt)
      have HB := hid hb
      clear hcell he hb
      generalize l[q] = x at *
      have hmul : off + q * 3 = off + 3 * q := by omega
      have hm1 : off + 3 * q + 1 = off + (3 * q + 1) := by omega
      have hm2 : off + 3 * q + 2 = off + (3 * q + 2) := by omega
      go_wp2_with fail
      refine Calls.mono (badA_any x hdq wr) ?_
      rintro e w2 ⟨rfl, hb2⟩
      have HB2 := hid (HB.out.trans (hb2.mono HB.out.size))
      clear hb2 c0 c1 c2
      cases hm : mayEn x
      · have HF := hid (show anyBad l = true by rw [HR.out, HD.out, hm]; rfl)
        clear HD HR
        go_wp2_with fail
        go_ret
        exact ⟨⟨_, rfl, by rw [HF.out]; exact decide_eq_true (Int.natCast_nonneg q)⟩, HB2.out⟩
      · have HF := hid (show anyBad l = anyBad (l.drop (q + 1)) by rw [HR.out, HD.out, hm]; rfl)
        clear HD HR
        go_wp2_with fail
        go_roundw
        case rel => exact ⟨q + 1, by go_num, by omega, HB2.out, HF.out⟩
        case measure => simp [intOf]; omega
    · obtain rfl : q = l.length := by omega
      have HR2 := hid (show anyBad l = false by rw [HR.out, List.drop_length]; rfl)
      clear HR
      go_wp2_with fail
      go_ret
      exact ⟨⟨_, rfl, by rw [HR2.out]; rfl⟩, hb⟩
set_option maxRecDepth 100000 in
set_option maxHeartbeats 2000000 in
theorem containsA_any {l : List En} {v : Value} {W : World} (hv : Cells [] W v l.length (enVals l)) (hl : l.length ≤ 1000000) (hd : ∀ e ∈ l, e.data.length ≤ maxLen) :
    Calls Tryz.prog 64 #[v, .func (.func 65) #[] #[]] W fun x W' => x = .returned (.bool (anyBad l)) ∧ Below W.heap.size W W' := by
  have HI := hid (indexA_any hv hl hd)
  obtain ⟨a, cap, rfl⟩ := hv.form
  clear hv
  go_enter Tryz.func64, Tryz.ntmps64
  go_wp2_with fail
  refine Calls.mono HI.out ?_
  rintro e w2 ⟨⟨n, rfl, hn⟩, hb2⟩
  have HN := hid hn
  clear hn
  go_wp2_with fail
  go_ret
  exact ⟨by rw [← HN.out]; rfl, hb2⟩
set_option maxRecDepth 100000 in
set_option maxHeartbeats 2000000 in
theorem badR_any (e : En) (hd : e.data.length ≤ maxLen) (w : World) :
    Calls Tryz.prog 100 #[.agg #[.int .u64 e.term, .int .i64 e.kind, .string (str e.data)]] w fun x w' => x = .returned (.bool (!mayEn e)) ∧ Below w.heap.size w w' := by
  have hb : Below w.heap.size w (w.alloc (.cells #[.int .u64 e.term, .int .i64 e.kind, .string (str e.data)] 116)) := (Below.refl _ _).alloc (Nat.le_refl _) _
  have hk := heap_alloc_new w (.cells #[.int .u64 e.term, .int .i64 e.kind, .string (str e.data)] 116)
  have HM := hid (may_en e hd (w.alloc (.cells #[.int .u64 e.term, .int .i64 e.kind, .string (str e.data)] 116)))
  have hnot : ∀ (x : Bool) (w : World), (Op.unary .not (.bool x)).run Tryz.prog w = .ok (.bool (!x)) w := fun _ _ => rfl
  have HB := hid hb
  have HK := hid hk
  clear hb hk
  generalize mayEn e = m at *
  go_enter Tryz.func100, Tryz.ntmps100
  go_wp2_with (refine wpList_load_row rfl 116 _ rfl w.heap.size (by rfl) 116 _ (0, 0) _ HK.out Tryz.underlying116 rfl sizeEn ?_)
  refine Calls.mono HM.out ?_
  rintro e w2 ⟨rfl, hb2⟩
  have HB2 := hid (HB.out.trans (hb2.mono HB.out.size))
  clear hb2
  go_wp2_with fail
  go_ret
  exact ⟨rfl, HB2.out⟩
set_option maxRecDepth 100000 in
set_option maxHeartbeats 4000000 in
theorem indexR_any {l : List En} {v : Value} {W : World} (hv : Cells [] W v l.length (enVals l)) (hl : l.length ≤ 1000000) (hd : ∀ e ∈ l, e.data.length ≤ maxLen) :
    Calls Tryz.prog 103 #[v, .func (.func 100) #[] #[]] W fun x W' => (∃ n : Int, x = .returned (.int .i64 n) ∧ decide (0 ≤ n) = anyBad l) ∧ Below W.heap.size W W' := by
  obtain ⟨a, cap, rfl⟩ := hv.form
  obtain ⟨_, hcap, hcell⟩ := hv.at
  have HX := hid hcell
  clear hcell hv
  go_enter Tryz.func103, Tryz.ntmps103
  go_wp2_with fail
  go_loopw [8] (fun i wr => ∃ q : Nat, i = .int .i64 q ∧ q ≤ l.length ∧ Below W.heap.size W wr ∧ Hid (anyBad l = anyBad (l.drop q))) (fun i _ => l.length - (intOf i).toNat)
  case atStart => exact ⟨0, rfl, Nat.zero_le _, Below.refl _ _, rfl⟩
  case round =>
    obtain ⟨q, rfl, hq, hb, HR⟩ := hrel
    by_cases hlt : q < l.length
    · obtain ⟨b, off, rfl, hcell⟩ := HX.out (by rw [enVals_len]; omega)
      have he := enVals_cell l q hlt
      have c0 := hcell wr hb _ _ he.1
      have c1 := hcell wr hb _ _ he.2.1
      have c2 := hcell wr hb _ _ he.2.2
      have hdq := hd l[q] (List.getElem_mem hlt)
      have HD := hid (anyBad_drop hlt)
      have HB := hid hb
      clear hcell he hb
      generalize l[q] = x at *
      have hmul : off + q * 3 = off + 3 * q := by omega
      have hm1 : off + 3 * q + 1 = off + (3 * q + 1) := by omega
      have hm2 : off + 3 * q + 2 = off + (3 * q + 2) := by omega
      go_wp2_with fail
      refine Calls.mono (badR_any x hdq wr) ?_
      rintro e w2 ⟨rfl, hb2⟩
      have HB2 := hid (HB.out.trans (hb2.mono HB.out.size))
      clear hb2 c0 c1 c2
      cases hm : mayEn x
      · have HF := hid (show anyBad l = true by rw [HR.out, HD.out, hm]; rfl)
        clear HD HR
        go_wp2_with fail
        go_ret
        exact ⟨⟨_, rfl, by rw [HF.out]; exact decide_eq_true (Int.natCast_nonneg q)⟩, HB2.out⟩
      · have HF := hid (show anyBad l = anyBad (l.drop (q + 1)) by rw [HR.out, HD.out, hm]; rfl)
        clear HD HR
        go_wp2_with fail
        go_roundw
        case rel => exact ⟨q + 1, by go_num, by omega, HB2.out, HF.out⟩
        case measure => simp [intOf]; omega
    · obtain rfl : q = l.length := by omega
      have HR2 := hid (show anyBad l = false by rw [HR.out, List.drop_length]; rfl)
      clear HR
      go_wp2_with fail
      go_ret
      exact ⟨⟨_, rfl, by rw [HR2.out]; rfl⟩, hb⟩
set_option maxRecDepth 100000 in
set_option maxHeartbeats 2000000 in
theorem containsR_any {l : List En} {v : Value} {W : World} (hv : Cells [] W v l.length (enVals l)) (hl : l.length ≤ 1000000) (hd : ∀ e ∈ l, e.data.length ≤ maxLen) :
    Calls Tryz.prog 64 #[v, .func (.func 100) #[] #[]] W fun x W' => x = .returned (.bool (anyBad l)) ∧ Below W.heap.size W W' := by
  have HI := hid (indexR_any hv hl hd)
  obtain ⟨a, cap, rfl⟩ := hv.form
  clear hv
  go_enter Tryz.func64, Tryz.ntmps64
  go_wp2_with fail
  refine Calls.mono HI.out ?_
  rintro e w2 ⟨⟨n, rfl, hn⟩, hb2⟩
  have HN := hid hn
  clear hn
  go_wp2_with fail
  go_ret
  exact ⟨by rw [← HN.out]; rfl, hb2⟩
end Go.Proofs.YtmehcogaopackaaGreat
