/-
  The walks of slices.IndexFunc and slices.ContainsFunc, and of the closures that wire hands to them.
-/
import Derived.Test.YtgkapgfpalbkjaaWireP
import Derived.Test.YtgkapgfpalbkjaaWSmall
namespace Go.Proofs.Ytgkapgfpalbkjaa
open Go.RowKit
set_option linter.unusedVariables false
/-- an index, or a number below 0 where there is none -/
def SomeIdx (yes : Bool) (w : World) (e : Ending) (w' : World) : Prop := ∃ i : Int, e = .returned (.int .i64 i) ∧ yes = decide (0 ≤ i) ∧ Below w.heap.size w w'
theorem ret_bool {a b : Bool} (h : a = b) : Ending.returned (.bool a) = .returned (.bool b) := by rw [h]
def longP (f : Bytes) : Bool := decide ((32 : Int) < (f.length : Int))
def greatP (r : Nat × Nat) : Bool := decide ((4294967295 : Int) < max (r.1 : Int) (r.2 : Int))
def entryP (e : En) : Bool := !(decide (1 ≤ e.kind) && decide (e.kind ≤ 3)) || decide ((2048 : Int) < (e.data.length : Int))
def nodeP (n : Int) : Bool := !(decide (1 ≤ n) && decide (n ≤ 5))
set_option maxHeartbeats 1000000 in
theorem long_any (f : Bytes) (hf : f.length ≤ maxLen) (w : World) : Calls Try.prog 65 #[.string (str f)] w fun e w' => e = .returned (.bool (longP f)) ∧ Below w.heap.size w w' := by
  have hz : (str f).size = f.length := str_size _
  unfold maxLen at hf
  have HP := hid (show longP f = decide ((32 : Int) < (f.length : Int)) from rfl)
  go_enter Try.func65, Try.ntmps65
  go_wp2_with fail
  go_ret
  rw [HP.out]
  exact ⟨rfl, Below.refl _ _⟩
set_option maxHeartbeats 1000000 in
theorem great_any (r : Nat × Nat) (w : World) : Calls Try.prog 66 #[.agg #[.int .u64 r.1, .int .u64 r.2]] w fun e w' => e = .returned (.bool (greatP r)) ∧ Below w.heap.size w w' := by
  obtain ⟨x, y⟩ := r
  have HP := hid (show greatP (x, y) = decide ((4294967295 : Int) < max (x : Int) (y : Int)) from rfl)
  by_cases hxy : x < y
  · go_enter Try.func66, Try.ntmps66
    go_wp2_with fail
    go_ret
    exact ⟨ret_bool (by rw [HP.out, decide_eq_decide]; omega), (Below.refl _ _).alloc (Nat.le_refl _) _⟩
  · go_enter Try.func66, Try.ntmps66
    go_wp2_with fail
    go_ret
    exact ⟨ret_bool (by rw [HP.out, decide_eq_decide]; omega), (Below.refl _ _).alloc (Nat.le_refl _) _⟩

set_option maxRecDepth 100000 in
set_option maxHeartbeats 2000000 in
theorem indexFlags_any (l : List Bytes) (v : Value) (w : World) (D : List Nat) (hv : Cells D w v l.length (strVals l)) (hn : l.length ≤ 1152921504606846976) (hl : ∀ f ∈ l, f.length ≤ maxLen) :
    Calls Try.prog 87 #[v, .func (.func 65) #[] #[]] w (SomeIdx (l.any longP) w) := by
  obtain ⟨a, cap, rfl⟩ := hv.form
  obtain ⟨_, hc, hcell⟩ := hv.at
  have HX := hid hcell
  have HL := hid hl
  clear hl
  clear hcell hv
  go_enter Try.func87, Try.ntmps87
  go_wp2_with fail
  go_loopw [5, 8] (fun _ i wr => ∃ k : Nat, i = .int .i64 k ∧ k ≤ l.length ∧ Hid (∀ x ∈ l.take k, longP x = false) ∧ Below w.heap.size w wr) (fun _ i _ => l.length - (intOf i).toNat)
  case atStart => exact ⟨0, rfl, Nat.zero_le _, (fun x hx => by simp at hx), Below.refl _ _⟩
  case round =>
    obtain ⟨k, rfl, hk, HN, hB⟩ := hrel
    by_cases hlt : k < l.length
    · obtain ⟨b, off, rfl, hcell⟩ := HX.out (by rw [strVals_len]; omega)
      have HC := hid hcell
      clear hcell
      have hx := HC.out wr hB k _ (strVals_at l k hlt)
      have HS := hid (show l.take (k + 1) = l.take k ++ [l[k]] from List.take_succ_eq_append_getElem hlt)
      have HM := hid (show l[k] ∈ l from List.getElem_mem hlt)
      have hcl := fun W => long_any l[k] (HL.out _ (List.getElem_mem hlt)) W
      generalize l[k] = x at *
      have hBs := hB.size
      cases hp : longP x
      · have HP := hid hp
        rw [hp] at hcl
        clear hp
        go_wp2_with fail
        refine Calls.mono (hcl _) ?_
        rintro e w2 ⟨rfl, hb2⟩
        go_wp2_with fail
        go_roundw
        case rel => exact ⟨k + 1, by go_num, by omega, (fun y hy => by rw [HS.out] at hy; rcases List.mem_append.1 hy with h | h; exact HN.out y h; simp at h; subst h; exact HP.out), hB.trans (hb2.mono hBs)⟩
        case measure => simp [intOf]; omega
      · have HA : Hid (l.any longP = true) := List.any_eq_true.2 ⟨x, HM.out, hp⟩
        rw [hp] at hcl
        clear hp
        go_wp2_with fail
        refine Calls.mono (hcl _) ?_
        rintro e w2 ⟨rfl, hb2⟩
        go_wp2_with fail
        go_ret
        exact ⟨(k : Int), rfl, by rw [HA.out]; simp, hB.trans (hb2.mono hBs)⟩
    · have HA : Hid (l.any longP = false) := by
        have h0 := HN.out
        rw [List.take_of_length_le (by omega)] at h0
        show l.any longP = false
        rw [List.any_eq_false]
        exact fun x hx => by rw [h0 x hx]; simp
      go_wp2_with fail
      go_ret
      exact ⟨-1, rfl, by rw [HA.out]; simp, hB⟩
set_option maxHeartbeats 1000000 in
theorem containsFlags_any (l : List Bytes) (v : Value) (w : World) (D : List Nat) (hv : Cells D w v l.length (strVals l)) (hn : l.length ≤ 1152921504606846976) (hl : ∀ f ∈ l, f.length ≤ maxLen) :
    Calls Try.prog 69 #[v, .func (.func 65) #[] #[]] w fun e w' => e = .returned (.bool (l.any longP)) ∧ Below w.heap.size w w' := by
  have H := indexFlags_any l v w D hv hn hl
  go_enter Try.func69, Try.ntmps69
  go_wp2_with fail
  refine Calls.mono H ?_
  rintro e w2 ⟨i, rfl, hy, hb2⟩
  have HY := hid hy
  clear hy H
  go_wp2_with fail
  go_ret
  exact ⟨ret_bool HY.out.symm, hb2⟩

set_option maxRecDepth 100000 in
set_option maxHeartbeats 2000000 in
theorem indexRanges_any (l : List (Nat × Nat)) (v : Value) (w : World) (D : List Nat) (hv : Cells D w v l.length (rgVals l)) (hn : l.length ≤ 1152921504606846976)  :
    Calls Try.prog 86 #[v, .func (.func 66) #[] #[]] w (SomeIdx (l.any greatP) w) := by
  obtain ⟨a, cap, rfl⟩ := hv.form
  obtain ⟨_, hc, hcell⟩ := hv.at
  have HX := hid hcell
  clear hcell hv
  go_enter Try.func86, Try.ntmps86
  go_wp2_with fail
  go_loopw [5, 8] (fun _ i wr => ∃ k : Nat, i = .int .i64 k ∧ k ≤ l.length ∧ Hid (∀ x ∈ l.take k, greatP x = false) ∧ Below w.heap.size w wr) (fun _ i _ => l.length - (intOf i).toNat)
  case atStart => exact ⟨0, rfl, Nat.zero_le _, (fun x hx => by simp at hx), Below.refl _ _⟩
  case round =>
    obtain ⟨k, rfl, hk, HN, hB⟩ := hrel
    by_cases hlt : k < l.length
    · obtain ⟨b, off, rfl, hcell⟩ := HX.out (by rw [rgVals_len]; omega)
      have HC := hid hcell
      clear hcell
      have hx := HC.out wr hB _ _ (rgVals_at l k hlt).1
      have hy := HC.out wr hB _ _ (rgVals_at l k hlt).2
      rw [show off + (k * 2 + 1) = off + k * 2 + 1 by omega] at hy
      have HS := hid (show l.take (k + 1) = l.take k ++ [l[k]] from List.take_succ_eq_append_getElem hlt)
      have HM := hid (show l[k] ∈ l from List.getElem_mem hlt)
      have hcl := fun W => great_any l[k] W
      generalize l[k] = x at *
      have hBs := hB.size
      cases hp : greatP x
      · have HP := hid hp
        rw [hp] at hcl
        clear hp
        go_wp2_with fail
        refine Calls.mono (hcl _) ?_
        rintro e w2 ⟨rfl, hb2⟩
        go_wp2_with fail
        go_roundw
        case rel => exact ⟨k + 1, by go_num, by omega, (fun y hy => by rw [HS.out] at hy; rcases List.mem_append.1 hy with h | h; exact HN.out y h; simp at h; subst h; exact HP.out), hB.trans (hb2.mono hBs)⟩
        case measure => simp [intOf]; omega
      · have HA : Hid (l.any greatP = true) := List.any_eq_true.2 ⟨x, HM.out, hp⟩
        rw [hp] at hcl
        clear hp
        go_wp2_with fail
        refine Calls.mono (hcl _) ?_
        rintro e w2 ⟨rfl, hb2⟩
        go_wp2_with fail
        go_ret
        exact ⟨(k : Int), rfl, by rw [HA.out]; simp, hB.trans (hb2.mono hBs)⟩
    · have HA : Hid (l.any greatP = false) := by
        have h0 := HN.out
        rw [List.take_of_length_le (by omega)] at h0
        show l.any greatP = false
        rw [List.any_eq_false]
        exact fun x hx => by rw [h0 x hx]; simp
      go_wp2_with fail
      go_ret
      exact ⟨-1, rfl, by rw [HA.out]; simp, hB⟩
set_option maxHeartbeats 1000000 in
theorem containsRanges_any (l : List (Nat × Nat)) (v : Value) (w : World) (D : List Nat) (hv : Cells D w v l.length (rgVals l)) (hn : l.length ≤ 1152921504606846976)  :
    Calls Try.prog 68 #[v, .func (.func 66) #[] #[]] w fun e w' => e = .returned (.bool (l.any greatP)) ∧ Below w.heap.size w w' := by
  have H := indexRanges_any l v w D hv hn 
  go_enter Try.func68, Try.ntmps68
  go_wp2_with fail
  refine Calls.mono H ?_
  rintro e w2 ⟨i, rfl, hy, hb2⟩
  have HY := hid hy
  clear hy H
  go_wp2_with fail
  go_ret
  exact ⟨ret_bool HY.out.symm, hb2⟩

end Go.Proofs.Ytgkapgfpalbkjaa
