/-
  The walks of wire.read at entries and at members.
-/
import Derived.Test.YtgkapgfpalbkjaaWMany
import Derived.Test.YtgkapgfpalbkjaaWReadM
namespace Go.Proofs.Ytgkapgfpalbkjaa
open Go.RowKit
theorem hold_three {w : World} (x y z : Value) (t : TypeId) : ∀ j u, [x, y, z][j]? = some u → (w.alloc (.cells #[x, y, z] t)).cell? ((⟨w.heap.size, 0, none⟩ : Addr).add j) = some u := by
  intro j u hu
  have h := heap_alloc_new w (.cells #[x, y, z] t)
  rw [show (⟨w.heap.size, 0, none⟩ : Addr).add j = ⟨w.heap.size, j, none⟩ from by unfold Addr.add; split <;> simp_all]
  exact cell_in h j u (by simpa using hu)
theorem enVals_snoc (l : List En) (e : En) : enVals (l ++ [e]) = enVals l ++ [.int .u64 e.term, .int .i64 e.kind, .string (str e.data)] := by simp [enVals]
theorem intVals_snoc (l : List Int) (n : Int) : intVals (l ++ [n]) = intVals l ++ [.int .i64 n] := by simp [intVals]

theorem infoEntries : (Try.prog.info? 58).map (fun i => (i.zero, i.size, i.bytes)) = some (some (.agg #[.int .u64 0, .int .i64 0, .string { data := #[] }]), 3, 32) := by kernel_rfl
set_option maxRecDepth 100000 in
set_option maxHeartbeats 4000000 in
theorem readEntries_any (s : Bytes) (hs : s.length ≤ 1152921504606846976) (m : Nat) (hm : m ≤ 1000) (st0 st1 : Nat × Nat) (n : Nat) (E : Hid (pCount m s st0 = (n, st1))) (b c : Nat) (hne : c ≠ b) (w : World) (hr : RS w b s st0) (hc : w.cell? ⟨c, 0, none⟩ = some (.pointer (some ⟨b, 0, none⟩))) :
    Calls Try.prog 58 #[.pointer (some ⟨b, 0, none⟩), .int .i64 (m : Int), .func (.func 59) #[] #[.pointer (some ⟨c, 0, none⟩)]] w fun x W' => ∃ v, x = .returned v ∧
      W'.ownsRow w.heap.size 58 3 v n (enVals (many (rdEntry s) n st1).1) ∧ RS W' b s (many (rdEntry s) n st1).2 ∧ Only b w W' := by
  obtain ⟨i0, hi, hz0, hz1, hz2⟩ := info_parts infoEntries
  have hn : n ≤ 1000 := by have := pCount_le m s st0; rw [E.out] at this; simp only at this; omega
  have hlt := hr.lt
  have hlc := World.block_lt_of_cell? _ _ hc
  simp only at hlc
  have hm' : m ≤ maxLen := by unfold maxLen; omega
  have HR := hid hr
  clear hr
  go_enter Try.func58, Try.ntmps58
  go_wp2_with fail
  refine Calls.mono (rsCountE hm' E.out HR.out hs) ?_
  rintro e w1 ⟨rfl, hr1, hb1⟩
  have hc1 := hb1.cell hne hc
  have HR1 := hid hr1
  have HB1 := hid hb1
  clear hr1 hb1
  go_wp2_with fail
  go_loopw [7, 11] (fun v i wr => ∃ k : Nat, i = .int .i64 k ∧ k ≤ n ∧ wr.ownsRow w.heap.size 58 3 v k (enVals (many (rdEntry s) k st1).1) ∧ RS wr b s (many (rdEntry s) k st1).2 ∧ Only b w wr) (fun _ i _ => n - (intOf i).toNat)
  case atStart => exact ⟨0, rfl, Nat.zero_le _, World.ownsRow_nil _ _ _ _, HR1.out, HB1.out⟩
  case round =>
    obtain ⟨k, rfl, hk, ho, hr2, hb2⟩ := hrel
    by_cases hk2 : k < n
    · have hc2 := hb2.cell hne hc
      have HM := hid (show many (rdEntry s) (k + 1) st1 = ((many (rdEntry s) k st1).1 ++ [((rdEntry s) (many (rdEntry s) k st1).2).1], ((rdEntry s) (many (rdEntry s) k st1).2).2) from rfl)
      generalize hst : many (rdEntry s) k st1 = p at *
      obtain ⟨l, st⟩ := p
      simp only at ho hr2 HM
      have HR2 := hid hr2
      have HB2 := hid hb2
      have HO := hid ho
      have hsz := hb2.size
      clear hr2 hb2 ho hst
      go_wp2_with fail
      refine Calls.mono (readEntry_any s hs st b c hne _ HR2.out hc2) ?_
      rintro e w3 ⟨rfl, hr3, hb3⟩
      have hsz3 := hb3.size
      have ho3 := HO.out.kept hb3 (.inr (row_ne HO.out hlt))
      go_wp2_with (at_builtin; refine wpList_append_own _ rfl _ _ 29 rfl w.heap.size 58 i0 (.agg #[.int .u64 0, .int .i64 0, .string { data := #[] }]) 3 32 Try.underlying29 hi hz0 hz1 hz2 rfl (by decide) _ _ _ rfl (ho3.alloc _) ⟨w3.heap.size, 0, none⟩ 1 1 [.int .u64 ((rdEntry s st).1.term : Nat), .int .i64 (rdEntry s st).1.kind, .string (str (rdEntry s st).1.data)] rfl rfl (hold_three _ _ _ _) (by simp [Value.oneCell']) (by unfold maxLen; omega) (by omega) (by simp; omega) ?_; intro v' w4 hown' hgrow _)
      go_roundw
      case rel =>
        refine ⟨k + 1, by go_num, by omega, ?_, ?_, ?_⟩
        · rw [HM.out]
          simp only [enVals_snoc]
          exact hown'
        · rw [HM.out]
          exact (hr3.alloc _).grown hgrow (row_ne ho3 hlt)
        · exact ((HB2.out.trans hb3).trans (.of_below ((Below.refl _ _).alloc (Nat.le_refl _) _))).grown hgrow (fun j ej => (ho3.lt j ej).1)
      case measure => simp [intOf]; omega
    · obtain rfl : k = n := by omega
      have HR2 := hid hr2
      have HB2 := hid hb2
      have HO := hid ho
      clear hr2 hb2 ho
      go_wp2_with fail
      go_ret
      exact ⟨_, rfl, HO.out, HR2.out, HB2.out⟩

theorem infoConfs : (Try.prog.info? 3).map (fun i => (i.zero, i.size, i.bytes)) = some (some (.int .i64 0), 1, 8) := by kernel_rfl
set_option maxRecDepth 100000 in
set_option maxHeartbeats 4000000 in
theorem readConfs_any (s : Bytes) (hs : s.length ≤ 1152921504606846976) (m : Nat) (hm : m ≤ 1000) (st0 st1 : Nat × Nat) (n : Nat) (E : Hid (pCount m s st0 = (n, st1))) (b c : Nat) (hne : c ≠ b) (w : World) (hr : RS w b s st0) (hc : w.cell? ⟨c, 0, none⟩ = some (.pointer (some ⟨b, 0, none⟩))) :
    Calls Try.prog 60 #[.pointer (some ⟨b, 0, none⟩), .int .i64 (m : Int), .func (.func 61) #[] #[.pointer (some ⟨c, 0, none⟩)]] w fun x W' => ∃ v, x = .returned v ∧
      W'.ownsRow w.heap.size 3 1 v n (intVals (many (rdConf s) n st1).1) ∧ RS W' b s (many (rdConf s) n st1).2 ∧ Only b w W' := by
  obtain ⟨i0, hi, hz0, hz1, hz2⟩ := info_parts infoConfs
  have hn : n ≤ 1000 := by have := pCount_le m s st0; rw [E.out] at this; simp only at this; omega
  have hlt := hr.lt
  have hlc := World.block_lt_of_cell? _ _ hc
  simp only at hlc
  have hm' : m ≤ maxLen := by unfold maxLen; omega
  have HR := hid hr
  clear hr
  go_enter Try.func60, Try.ntmps60
  go_wp2_with fail
  refine Calls.mono (rsCountE hm' E.out HR.out hs) ?_
  rintro e w1 ⟨rfl, hr1, hb1⟩
  have hc1 := hb1.cell hne hc
  have HR1 := hid hr1
  have HB1 := hid hb1
  clear hr1 hb1
  go_wp2_with fail
  go_loopw [7, 11] (fun v i wr => ∃ k : Nat, i = .int .i64 k ∧ k ≤ n ∧ wr.ownsRow w.heap.size 3 1 v k (intVals (many (rdConf s) k st1).1) ∧ RS wr b s (many (rdConf s) k st1).2 ∧ Only b w wr) (fun _ i _ => n - (intOf i).toNat)
  case atStart => exact ⟨0, rfl, Nat.zero_le _, World.ownsRow_nil _ _ _ _, HR1.out, HB1.out⟩
  case round =>
    obtain ⟨k, rfl, hk, ho, hr2, hb2⟩ := hrel
    by_cases hk2 : k < n
    · have hc2 := hb2.cell hne hc
      have HM := hid (show many (rdConf s) (k + 1) st1 = ((many (rdConf s) k st1).1 ++ [((rdConf s) (many (rdConf s) k st1).2).1], ((rdConf s) (many (rdConf s) k st1).2).2) from rfl)
      generalize hst : many (rdConf s) k st1 = p at *
      obtain ⟨l, st⟩ := p
      simp only at ho hr2 HM
      have HR2 := hid hr2
      have HB2 := hid hb2
      have HO := hid ho
      have hsz := hb2.size
      clear hr2 hb2 ho hst
      go_wp2_with fail
      refine Calls.mono (readConf_any s hs st b c _ HR2.out hc2) ?_
      rintro e w3 ⟨rfl, hr3, hb3⟩
      have hsz3 := hb3.size
      have ho3 := HO.out.kept hb3 (.inr (row_ne HO.out hlt))
      go_wp2_with (at_builtin; refine wpList_append_own _ rfl _ _ 30 rfl w.heap.size 3 i0 (.int .i64 0) 1 8 Try.underlying30 hi hz0 hz1 hz2 rfl (by decide) _ _ _ rfl (ho3.alloc _) ⟨w3.heap.size, 0, none⟩ 1 1 [.int .i64 (rdConf s st).1] rfl rfl (cell_one_new _ _ _) (by simp [Value.oneCell']) (by unfold maxLen; omega) (by omega) (by simp; omega) ?_; intro v' w4 hown' hgrow _)
      go_roundw
      case rel =>
        refine ⟨k + 1, by go_num, by omega, ?_, ?_, ?_⟩
        · rw [HM.out]
          simp only [intVals_snoc]
          exact hown'
        · rw [HM.out]
          exact (hr3.alloc _).grown hgrow (row_ne ho3 hlt)
        · exact ((HB2.out.trans hb3).trans (.of_below ((Below.refl _ _).alloc (Nat.le_refl _) _))).grown hgrow (fun j ej => (ho3.lt j ej).1)
      case measure => simp [intOf]; omega
    · obtain rfl : k = n := by omega
      have HR2 := hid hr2
      have HB2 := hid hb2
      have HO := hid ho
      clear hr2 hb2 ho
      go_wp2_with fail
      go_ret
      exact ⟨_, rfl, HO.out, HR2.out, HB2.out⟩

end Go.Proofs.Ytgkapgfpalbkjaa
