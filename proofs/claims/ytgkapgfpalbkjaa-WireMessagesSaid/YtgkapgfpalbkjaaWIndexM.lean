/-
  The walks of slices.IndexFunc and slices.ContainsFunc at entries and at members, and of the closures that wire.mayMessage hands to them.
-/
import Derived.Test.YtgkapgfpalbkjaaWMayRq
namespace Go.Proofs.Ytgkapgfpalbkjaa
open Go.RowKit
set_option linter.unusedVariables false
theorem node_any (n : Int) (w : World) : Calls Try.prog 77 #[.int .i64 n] w fun e w' => e = .returned (.bool (withinB n 1 5)) ∧ w = w' := by
  go_enter Try.func77, Try.ntmps77
  go_wp2_with fail
  refine Calls.mono (within_b _ _ _ _) ?_
  rintro e w' ⟨rfl, rfl⟩
  go_wp2_with fail
  go_ret
  exact ⟨rfl, rfl⟩
theorem conf_any (n : Int) (c : Nat) (w : World) (hc : w.cell? ⟨c, 0, none⟩ = some (.func (.func 77) #[] #[])) : Calls Try.prog 81 #[.int .i64 n, .pointer (some ⟨c, 0, none⟩)] w fun e w' => e = .returned (.bool (nodeP n)) ∧ Below w.heap.size w w' := by
  go_enter Try.func81, Try.ntmps81
  go_wp2_with fail
  refine Calls.mono (node_any _ _) ?_
  rintro e w' ⟨rfl, rfl⟩
  go_wp2_with fail
  go_ret
  exact ⟨rfl, Below.refl _ _⟩
set_option maxHeartbeats 1000000 in
theorem entry_any (x : En) (hl : x.data.length ≤ maxLen) (w : World) : Calls Try.prog 78 #[.agg #[.int .u64 (x.term : Nat), .int .i64 x.kind, .string (str x.data)]] w fun e w' => e = .returned (.bool (entryP x)) ∧ Below w.heap.size w w' := by
  have hz : (str x.data).size = x.data.length := str_size _
  unfold maxLen at hl
  have HP := hid (show entryP x = (!withinB x.kind 1 3 || decide ((2048 : Int) < (x.data.length : Int))) from rfl)
  go_enter Try.func78, Try.ntmps78
  go_wp2_with fail
  refine Calls.mono (within_b _ _ _ _) ?_
  rintro e w' ⟨rfl, rfl⟩
  cases hw : withinB x.kind 1 3
  · go_wp2_with fail
    go_ret
    exact ⟨ret_bool (by rw [HP.out, hw]; rfl), (Below.refl _ _).alloc (Nat.le_refl _) _⟩
  · go_wp2_with fail
    go_ret
    exact ⟨ret_bool (by rw [HP.out, hw]; rfl), (Below.refl _ _).alloc (Nat.le_refl _) _⟩

set_option maxRecDepth 100000 in
set_option maxHeartbeats 2000000 in
theorem indexEntries_any (l : List En) (v : Value) (w : World) (D : List Nat) (hv : Cells D w v l.length (enVals l)) (hn : l.length ≤ 1152921504606846976) (hl : ∀ e ∈ l, e.data.length ≤ maxLen) :
    Calls Try.prog 89 #[v, .func (.func 78) #[] #[]] w (SomeIdx (l.any entryP) w) := by
  obtain ⟨a, cap, rfl⟩ := hv.form
  obtain ⟨_, hc, hcell⟩ := hv.at
  have HX := hid hcell
  have HL := hid hl
  clear hl
  clear hcell hv
  go_enter Try.func89, Try.ntmps89
  go_wp2_with fail
  go_loopw [5, 8] (fun _ i wr => ∃ k : Nat, i = .int .i64 k ∧ k ≤ l.length ∧ Hid (∀ x ∈ l.take k, entryP x = false) ∧ Below w.heap.size w wr) (fun _ i _ => l.length - (intOf i).toNat)
  case atStart => exact ⟨0, rfl, Nat.zero_le _, (fun x hx => by simp at hx), Below.refl _ _⟩
  case round =>
    obtain ⟨k, rfl, hk, HN, hB⟩ := hrel
    by_cases hlt : k < l.length
    · obtain ⟨b, off, rfl, hcell⟩ := HX.out (by rw [enVals_len]; omega)
      have HC := hid hcell
      clear hcell
      have hx := HC.out wr hB _ _ (enVals_at l k hlt).1
      have hy := HC.out wr hB _ _ (enVals_at l k hlt).2.1
      have hz := HC.out wr hB _ _ (enVals_at l k hlt).2.2
      rw [show off + (k * 3 + 1) = off + k * 3 + 1 by omega] at hy
      rw [show off + (k * 3 + 2) = off + k * 3 + 2 by omega] at hz
      have HS := hid (show l.take (k + 1) = l.take k ++ [l[k]] from List.take_succ_eq_append_getElem hlt)
      have HM := hid (show l[k] ∈ l from List.getElem_mem hlt)
      have hcl := fun W => entry_any l[k] (HL.out _ (List.getElem_mem hlt)) W
      generalize l[k] = x at *
      have hBs := hB.size
      cases hp : entryP x
      · have HP := hid hp
        rw [hp] at hcl
        clear hp
        go_wp2_with fail
        refine Calls.mono (hcl _) ?_
        rintro e w2 ⟨rfl, hb2⟩
        go_wp2_with fail
        go_roundw
        case rel => exact ⟨k + 1, by go_num, by omega, (fun y hy => by rw [HS.out] at hy; rcases List.mem_append.1 hy with h | h; exact HN.out y h; simp at h; subst h; exact HP.out), hB.trans (hb2.mono hBs)⟩
        case measure => simp [intOf]; omega
      · have HA : Hid (l.any entryP = true) := List.any_eq_true.2 ⟨x, HM.out, hp⟩
        rw [hp] at hcl
        clear hp
        go_wp2_with fail
        refine Calls.mono (hcl _) ?_
        rintro e w2 ⟨rfl, hb2⟩
        go_wp2_with fail
        go_ret
        exact ⟨(k : Int), rfl, by rw [HA.out]; simp, hB.trans (hb2.mono hBs)⟩
    · have HA : Hid (l.any entryP = false) := by
        have h0 := HN.out
        rw [List.take_of_length_le (by omega)] at h0
        show l.any entryP = false
        rw [List.any_eq_false]
        exact fun x hx => by rw [h0 x hx]; simp
      go_wp2_with fail
      go_ret
      exact ⟨-1, rfl, by rw [HA.out]; simp, hB⟩
set_option maxHeartbeats 1000000 in
theorem containsEntries_any (l : List En) (v : Value) (w : World) (D : List Nat) (hv : Cells D w v l.length (enVals l)) (hn : l.length ≤ 1152921504606846976) (hl : ∀ e ∈ l, e.data.length ≤ maxLen) :
    Calls Try.prog 79 #[v, .func (.func 78) #[] #[]] w fun e w' => e = .returned (.bool (l.any entryP)) ∧ Below w.heap.size w w' := by
  have H := indexEntries_any l v w D hv hn hl
  go_enter Try.func79, Try.ntmps79
  go_wp2_with fail
  refine Calls.mono H ?_
  rintro e w2 ⟨i, rfl, hy, hb2⟩
  have HY := hid hy
  clear hy H
  go_wp2_with fail
  go_ret
  exact ⟨ret_bool HY.out.symm, hb2⟩

set_option maxRecDepth 100000 in
set_option maxHeartbeats 2000000 in
theorem indexConfs_any (l : List Int) (v : Value) (w : World) (D : List Nat) (hv : Cells D w v l.length (intVals l)) (hn : l.length ≤ 1152921504606846976) (c : Nat) (hcb : w.cell? ⟨c, 0, none⟩ = some (.func (.func 77) #[] #[])) :
    Calls Try.prog 90 #[v, .func (.func 81) #[] #[.pointer (some ⟨c, 0, none⟩)]] w (SomeIdx (l.any nodeP) w) := by
  obtain ⟨a, cap, rfl⟩ := hv.form
  obtain ⟨_, hc, hcell⟩ := hv.at
  have HX := hid hcell
  clear hcell hv
  go_enter Try.func90, Try.ntmps90
  go_wp2_with fail
  go_loopw [5, 8] (fun _ i wr => ∃ k : Nat, i = .int .i64 k ∧ k ≤ l.length ∧ Hid (∀ x ∈ l.take k, nodeP x = false) ∧ Below w.heap.size w wr) (fun _ i _ => l.length - (intOf i).toNat)
  case atStart => exact ⟨0, rfl, Nat.zero_le _, (fun x hx => by simp at hx), Below.refl _ _⟩
  case round =>
    obtain ⟨k, rfl, hk, HN, hB⟩ := hrel
    by_cases hlt : k < l.length
    · obtain ⟨b, off, rfl, hcell⟩ := HX.out (by rw [intVals_len]; omega)
      have HC := hid hcell
      clear hcell
      have hx := HC.out wr hB k _ (intVals_at l k hlt)
      have HS := hid (show l.take (k + 1) = l.take k ++ [l[k]] from List.take_succ_eq_append_getElem hlt)
      have HM := hid (show l[k] ∈ l from List.getElem_mem hlt)
      have hcw := (hB.cell (p := ⟨c, 0, none⟩) (World.block_lt_of_cell? _ _ hcb)).trans hcb
      have hcl := conf_any l[k] c wr hcw
      generalize l[k] = x at *
      have hBs := hB.size
      cases hp : nodeP x
      · have HP := hid hp
        rw [hp] at hcl
        clear hp
        go_wp2_with fail
        refine Calls.mono (hcl) ?_
        rintro e w2 ⟨rfl, hb2⟩
        go_wp2_with fail
        go_roundw
        case rel => exact ⟨k + 1, by go_num, by omega, (fun y hy => by rw [HS.out] at hy; rcases List.mem_append.1 hy with h | h; exact HN.out y h; simp at h; subst h; exact HP.out), hB.trans (hb2.mono hBs)⟩
        case measure => simp [intOf]; omega
      · have HA : Hid (l.any nodeP = true) := List.any_eq_true.2 ⟨x, HM.out, hp⟩
        rw [hp] at hcl
        clear hp
        go_wp2_with fail
        refine Calls.mono (hcl) ?_
        rintro e w2 ⟨rfl, hb2⟩
        go_wp2_with fail
        go_ret
        exact ⟨(k : Int), rfl, by rw [HA.out]; simp, hB.trans (hb2.mono hBs)⟩
    · have HA : Hid (l.any nodeP = false) := by
        have h0 := HN.out
        rw [List.take_of_length_le (by omega)] at h0
        show l.any nodeP = false
        rw [List.any_eq_false]
        exact fun x hx => by rw [h0 x hx]; simp
      go_wp2_with fail
      go_ret
      exact ⟨-1, rfl, by rw [HA.out]; simp, hB⟩
set_option maxHeartbeats 1000000 in
theorem containsConfs_any (l : List Int) (v : Value) (w : World) (D : List Nat) (hv : Cells D w v l.length (intVals l)) (hn : l.length ≤ 1152921504606846976) (c : Nat) (hcb : w.cell? ⟨c, 0, none⟩ = some (.func (.func 77) #[] #[])) :
    Calls Try.prog 80 #[v, .func (.func 81) #[] #[.pointer (some ⟨c, 0, none⟩)]] w fun e w' => e = .returned (.bool (l.any nodeP)) ∧ Below w.heap.size w w' := by
  have H := indexConfs_any l v w D hv hn c hcb
  go_enter Try.func80, Try.ntmps80
  go_wp2_with fail
  refine Calls.mono H ?_
  rintro e w2 ⟨i, rfl, hy, hb2⟩
  have HY := hid hy
  clear hy H
  go_wp2_with fail
  go_ret
  exact ⟨ret_bool HY.out.symm, hb2⟩

end Go.Proofs.Ytgkapgfpalbkjaa
