/-
  The walks of the comparisons of lists: ranges, texts, entries, members.
-/
import Derived.Test.YtgkapgfpalbkjaaWireP
import Derived.Test.YtgkapgfpalbkjaaWSmall
import Derived.Deep.QuietTactic
import Derived.BigQuiet
import Derived.Laws.StructEq
namespace Go.Proofs.Ytgkapgfpalbkjaa
open Go.RowKit
set_option linter.unusedVariables false
set_option linter.unusedSimpArgs false
theorem take_eq_succ {α : Type} {l1 l2 : List α} {k : Nat} (h : l1.take k = l2.take k) (h1 : k < l1.length) (h2 : k < l2.length) (he : l1[k] = l2[k]) : l1.take (k + 1) = l2.take (k + 1) := by
  rw [List.take_succ_eq_append_getElem h1, List.take_succ_eq_append_getElem h2, h, he]
theorem below_drew_n {B : Nat} {a w : World} (h : Below B a w) (n : Nat) : Below B a (w.drewN n) := ⟨h.os, h.tape, h.output, h.size, h.block⟩
/-- a bool that says whether p -/
def SomeB (p : Prop) (w : World) (e : Ending) (w' : World) : Prop := (∃ b : Bool, e = .returned (.bool b) ∧ (b = true ↔ p)) ∧ Below w.heap.size w w'
theorem str_ne {a b : Bytes} (h : a ≠ b) : str a ≠ str b := fun e => h (str_inj e)
theorem guardRange : Try.prog.eqGuardType Try.prog.depth 65 = false := by kernel_rfl
theorem guardEntry : Try.prog.eqGuardType Try.prog.depth 58 = false := by kernel_rfl
theorem neqRange (x y : Nat × Nat) (b : Bool) (hb : b = true ↔ x ≠ y) (w : World) : (binOp .neq 65 (.agg #[.int .u64 (x.1 : Int), .int .u64 (x.2 : Int)]) (.agg #[.int .u64 (y.1 : Int), .int .u64 (y.2 : Int)])).run Try.prog w = .ok (.bool b) w := by
  have hS : Try.prog.underlying 65 = some (.struct (Try.prog.fieldsOf 65)) := by kernel_rfl
  have hp : Try.prog.stoodInHeld 65 = false := by kernel_rfl
  rw [run_neq_struct, show (10000 : Nat) = 9999 + 1 from rfl, run_equalIn_agg w 9999 65 _ _ hS hp]
  simp only [Program.fieldsOf, Try.underlying65]
  go_simp
  obtain ⟨x1, x2⟩ := x
  obtain ⟨y1, y2⟩ := y
  simp only [ne_eq, Prod.mk.injEq] at hb
  by_cases h1 : x1 = y1 <;> by_cases h2 : x2 = y2 <;> simp [h1, h2] at hb ⊢ <;> (try simp [hb]) <;> (first | done | omega | (intro _; omega))
theorem neqEntry (x y : En) (b : Bool) (hb : b = true ↔ x ≠ y) (w : World) : (binOp .neq 58 (.agg #[.int .u64 (x.term : Int), .int .i64 x.kind, .string (str x.data)]) (.agg #[.int .u64 (y.term : Int), .int .i64 y.kind, .string (str y.data)])).run Try.prog w = .ok (.bool b) w := by
  have hS : Try.prog.underlying 58 = some (.struct (Try.prog.fieldsOf 58)) := by kernel_rfl
  have hp : Try.prog.stoodInHeld 58 = false := by kernel_rfl
  rw [run_neq_struct, show (10000 : Nat) = 9999 + 1 from rfl, run_equalIn_agg w 9999 58 _ _ hS hp]
  simp only [Program.fieldsOf, Try.underlying58]
  obtain ⟨x1, x2, x3⟩ := x
  obtain ⟨y1, y2, y3⟩ := y
  have hbe : ((str x3).toList == (str y3).toList) = (x3 == y3) := str_beq x3 y3
  go_simp
  simp only [ne_eq, En.mk.injEq] at hb
  by_cases h1 : x1 = y1 <;> by_cases h2 : x2 = y2 <;> by_cases h3 : x3 = y3 <;> simp [h1, h2, h3] at hb ⊢ <;> (try simp [hb]) <;> (first | done | omega | (intro _; omega))

set_option maxRecDepth 100000 in
set_option maxHeartbeats 2000000 in
theorem sameConfs_any (l1 l2 : List Int) (v1 v2 : Value) (w : World) (D1 D2 : List Nat) (hv1 : Cells D1 w v1 l1.length (intVals l1)) (hv2 : Cells D2 w v2 l2.length (intVals l2)) (hn : l1.length ≤ 1152921504606846976) (hn2 : l2.length ≤ 1152921504606846976) :
    Calls Try.prog 64 #[v1, v2] w (SomeB (l1 = l2) w) := by
  obtain ⟨a1, cap1, rfl⟩ := hv1.form
  obtain ⟨a2, cap2, rfl⟩ := hv2.form
  obtain ⟨_, hc1, hcell1⟩ := hv1.at
  obtain ⟨_, hc2, hcell2⟩ := hv2.at
  have HX1 := hid hcell1
  have HX2 := hid hcell2
  clear hcell1 hcell2 hv1 hv2
  by_cases hlen : l1.length = l2.length
  · rw [hlen] at hc1 hn ⊢
    have HL := hid hlen
    clear hlen
    go_enter Try.func64, Try.ntmps64
    go_wp2_with fail
    go_loopw [5] (fun i wr => ∃ k : Nat, i = .int .i64 k ∧ k ≤ l2.length ∧ Hid (l1.take k = l2.take k) ∧ Below w.heap.size w wr) (fun i _ => l2.length - (intOf i).toNat)
    case atStart => exact ⟨0, rfl, Nat.zero_le _, rfl, Below.refl _ _⟩
    case round =>
      obtain ⟨k, rfl, hk, HT, hB⟩ := hrel
      by_cases hlt2 : k < l2.length
      · have hlt1 : k < l1.length := by rw [HL.out]; exact hlt2
        have hk0 : (0 : Int) ≤ (k : Int) := by omega
        have hk1 : (k : Int) < (l2.length : Int) := by omega
        obtain ⟨b1, off1, rfl, hcell1⟩ := HX1.out (by rw [intVals_len]; omega)
        obtain ⟨b2, off2, rfl, hcell2⟩ := HX2.out (by rw [intVals_len]; omega)
        have HC1 := hid hcell1
        have HC2 := hid hcell2
        clear hcell1 hcell2
        have xa := HC1.out wr hB k _ (intVals_at l1 k hlt1)
        have xb := HC2.out wr hB k _ (intVals_at l2 k hlt2)
        have HE := hid (fun h => take_eq_succ HT.out hlt1 hlt2 h)
        have HNE := hid (fun (h : l1[k] ≠ l2[k]) (e : l1 = l2) => h (by subst e; rfl))
        have hBs := hB.size
        generalize l1[k] = x at *
        generalize l2[k] = y at *
        by_cases hxy : x = y
        · subst hxy
          have HE' := hid (HE.out rfl)
          clear HE HNE
          go_wp2_with fail
          go_quiet (fail)
          go_wp2_with fail
          all_goals
            go_roundw
            case rel => exact ⟨k + 1, by go_num, by omega, HE'.out, below_drew_n hB _⟩
            case measure => simp [intOf]; omega
        · have HN' := hid (HNE.out hxy)
          clear HE HNE
          have hx1 : (x == y) = false := by simpa using hxy
          have hx2 : (x != y) = true := by simpa using hxy
          go_wp2_with fail
          go_quiet (fail)
          go_wp2_with fail
          go_ret
          exact ⟨⟨false, rfl, by simp; exact HN'.out⟩, below_drew_n hB _⟩
      · obtain rfl : k = l2.length := by omega
        have HT' : Hid (l1 = l2) := by
          have h := HT.out
          rw [List.take_of_length_le (by rw [HL.out]; omega), List.take_of_length_le (by omega)] at h
          exact h
        go_wp2_with fail
        go_ret
        exact ⟨⟨true, rfl, by simp; exact HT'.out⟩, hB⟩
  · have hne : ((l1.length : Int) != (l2.length : Int)) = true := by simp; omega
    have hne2 : ((l1.length : Int) == (l2.length : Int)) = false := by simp; omega
    have HN := hid (fun (e : l1 = l2) => hlen (by rw [e]))
    clear hlen
    go_enter Try.func64, Try.ntmps64
    go_wp2_with fail
    go_ret
    exact ⟨⟨false, rfl, by simp; exact HN.out⟩, Below.refl _ _⟩

set_option maxRecDepth 100000 in
set_option maxHeartbeats 2000000 in
theorem sameFlags_any (l1 l2 : List Bytes) (v1 v2 : Value) (w : World) (D1 D2 : List Nat) (hv1 : Cells D1 w v1 l1.length (strVals l1)) (hv2 : Cells D2 w v2 l2.length (strVals l2)) (hn : l1.length ≤ 1152921504606846976) (hn2 : l2.length ≤ 1152921504606846976) :
    Calls Try.prog 47 #[v1, v2] w (SomeB (l1 = l2) w) := by
  obtain ⟨a1, cap1, rfl⟩ := hv1.form
  obtain ⟨a2, cap2, rfl⟩ := hv2.form
  obtain ⟨_, hc1, hcell1⟩ := hv1.at
  obtain ⟨_, hc2, hcell2⟩ := hv2.at
  have HX1 := hid hcell1
  have HX2 := hid hcell2
  clear hcell1 hcell2 hv1 hv2
  by_cases hlen : l1.length = l2.length
  · rw [hlen] at hc1 hn ⊢
    have HL := hid hlen
    clear hlen
    go_enter Try.func47, Try.ntmps47
    go_wp2_with fail
    go_loopw [5] (fun i wr => ∃ k : Nat, i = .int .i64 k ∧ k ≤ l2.length ∧ Hid (l1.take k = l2.take k) ∧ Below w.heap.size w wr) (fun i _ => l2.length - (intOf i).toNat)
    case atStart => exact ⟨0, rfl, Nat.zero_le _, rfl, Below.refl _ _⟩
    case round =>
      obtain ⟨k, rfl, hk, HT, hB⟩ := hrel
      by_cases hlt2 : k < l2.length
      · have hlt1 : k < l1.length := by rw [HL.out]; exact hlt2
        have hk0 : (0 : Int) ≤ (k : Int) := by omega
        have hk1 : (k : Int) < (l2.length : Int) := by omega
        obtain ⟨b1, off1, rfl, hcell1⟩ := HX1.out (by rw [strVals_len]; omega)
        obtain ⟨b2, off2, rfl, hcell2⟩ := HX2.out (by rw [strVals_len]; omega)
        have HC1 := hid hcell1
        have HC2 := hid hcell2
        clear hcell1 hcell2
        have xa := HC1.out wr hB k _ (strVals_at l1 k hlt1)
        have xb := HC2.out wr hB k _ (strVals_at l2 k hlt2)
        have HE := hid (fun h => take_eq_succ HT.out hlt1 hlt2 h)
        have HNE := hid (fun (h : l1[k] ≠ l2[k]) (e : l1 = l2) => h (by subst e; rfl))
        have hBs := hB.size
        generalize l1[k] = x at *
        generalize l2[k] = y at *
        by_cases hxy : x = y
        · subst hxy
          have HE' := hid (HE.out rfl)
          clear HE HNE
          go_wp2_with fail
          go_quiet (fail)
          go_wp2_with fail
          all_goals
            go_roundw
            case rel => exact ⟨k + 1, by go_num, by omega, HE'.out, below_drew_n hB _⟩
            case measure => simp [intOf]; omega
        · have HN' := hid (HNE.out hxy)
          clear HE HNE
          have hx1 : ((str x).toList == (str y).toList) = false := by rw [str_beq]; simpa using hxy
          have hx2 : (!((str x).toList == (str y).toList)) = true := by rw [hx1]; rfl
          go_wp2_with fail
          go_quiet (fail)
          go_wp2_with fail
          go_ret
          exact ⟨⟨false, rfl, by simp; exact HN'.out⟩, below_drew_n hB _⟩
      · obtain rfl : k = l2.length := by omega
        have HT' : Hid (l1 = l2) := by
          have h := HT.out
          rw [List.take_of_length_le (by rw [HL.out]; omega), List.take_of_length_le (by omega)] at h
          exact h
        go_wp2_with fail
        go_ret
        exact ⟨⟨true, rfl, by simp; exact HT'.out⟩, hB⟩
  · have hne : ((l1.length : Int) != (l2.length : Int)) = true := by simp; omega
    have hne2 : ((l1.length : Int) == (l2.length : Int)) = false := by simp; omega
    have HN := hid (fun (e : l1 = l2) => hlen (by rw [e]))
    clear hlen
    go_enter Try.func47, Try.ntmps47
    go_wp2_with fail
    go_ret
    exact ⟨⟨false, rfl, by simp; exact HN.out⟩, Below.refl _ _⟩

set_option maxRecDepth 100000 in
set_option maxHeartbeats 2000000 in
theorem sameRanges_any (l1 l2 : List (Nat × Nat)) (v1 v2 : Value) (w : World) (D1 D2 : List Nat) (hv1 : Cells D1 w v1 l1.length (rgVals l1)) (hv2 : Cells D2 w v2 l2.length (rgVals l2)) (hn : l1.length ≤ 1152921504606846976) (hn2 : l2.length ≤ 1152921504606846976) :
    Calls Try.prog 46 #[v1, v2] w (SomeB (l1 = l2) w) := by
  obtain ⟨a1, cap1, rfl⟩ := hv1.form
  obtain ⟨a2, cap2, rfl⟩ := hv2.form
  obtain ⟨_, hc1, hcell1⟩ := hv1.at
  obtain ⟨_, hc2, hcell2⟩ := hv2.at
  have HX1 := hid hcell1
  have HX2 := hid hcell2
  clear hcell1 hcell2 hv1 hv2
  by_cases hlen : l1.length = l2.length
  · rw [hlen] at hc1 hn ⊢
    have HL := hid hlen
    clear hlen
    go_enter Try.func46, Try.ntmps46
    go_wp2_with fail
    go_loopw [5] (fun i wr => ∃ k : Nat, i = .int .i64 k ∧ k ≤ l2.length ∧ Hid (l1.take k = l2.take k) ∧ Below w.heap.size w wr) (fun i _ => l2.length - (intOf i).toNat)
    case atStart => exact ⟨0, rfl, Nat.zero_le _, rfl, Below.refl _ _⟩
    case round =>
      obtain ⟨k, rfl, hk, HT, hB⟩ := hrel
      by_cases hlt2 : k < l2.length
      · have hlt1 : k < l1.length := by rw [HL.out]; exact hlt2
        have hk0 : (0 : Int) ≤ (k : Int) := by omega
        have hk1 : (k : Int) < (l2.length : Int) := by omega
        obtain ⟨b1, off1, rfl, hcell1⟩ := HX1.out (by rw [rgVals_len]; omega)
        obtain ⟨b2, off2, rfl, hcell2⟩ := HX2.out (by rw [rgVals_len]; omega)
        have HC1 := hid hcell1
        have HC2 := hid hcell2
        clear hcell1 hcell2
        have xa0 := HC1.out wr hB _ _ (rgVals_at l1 k hlt1).1
        have xa1 := HC1.out wr hB _ _ (rgVals_at l1 k hlt1).2
        rw [show off1 + (k * 2 + 1) = off1 + k * 2 + 1 by omega] at xa1
        have xb0 := HC2.out wr hB _ _ (rgVals_at l2 k hlt2).1
        have xb1 := HC2.out wr hB _ _ (rgVals_at l2 k hlt2).2
        rw [show off2 + (k * 2 + 1) = off2 + k * 2 + 1 by omega] at xb1
        have HE := hid (fun h => take_eq_succ HT.out hlt1 hlt2 h)
        have HNE := hid (fun (h : l1[k] ≠ l2[k]) (e : l1 = l2) => h (by subst e; rfl))
        have hBs := hB.size
        generalize l1[k] = x at *
        generalize l2[k] = y at *
        by_cases hxy : x = y
        · subst hxy
          have HE' := hid (HE.out rfl)
          clear HE HNE
          have hg := guardRange
          have hx1 := fun W => neqRange x x false (by simp) W
          go_wp2_with fail
          go_quiet (fail)
          go_wp2_with fail
          all_goals
            go_roundw
            case rel => exact ⟨k + 1, by go_num, by omega, HE'.out, below_drew_n hB _⟩
            case measure => simp [intOf]; omega
        · have HN' := hid (HNE.out hxy)
          clear HE HNE
          have hg := guardRange
          have hx1 := fun W => neqRange x y true (by simp [hxy]) W
          go_wp2_with fail
          go_quiet (fail)
          go_wp2_with fail
          go_ret
          exact ⟨⟨false, rfl, by simp; exact HN'.out⟩, below_drew_n hB _⟩
      · obtain rfl : k = l2.length := by omega
        have HT' : Hid (l1 = l2) := by
          have h := HT.out
          rw [List.take_of_length_le (by rw [HL.out]; omega), List.take_of_length_le (by omega)] at h
          exact h
        go_wp2_with fail
        go_ret
        exact ⟨⟨true, rfl, by simp; exact HT'.out⟩, hB⟩
  · have hne : ((l1.length : Int) != (l2.length : Int)) = true := by simp; omega
    have hne2 : ((l1.length : Int) == (l2.length : Int)) = false := by simp; omega
    have HN := hid (fun (e : l1 = l2) => hlen (by rw [e]))
    clear hlen
    go_enter Try.func46, Try.ntmps46
    go_wp2_with fail
    go_ret
    exact ⟨⟨false, rfl, by simp; exact HN.out⟩, Below.refl _ _⟩

set_option maxRecDepth 100000 in
set_option maxHeartbeats 2000000 in
theorem sameEntries_any (l1 l2 : List En) (v1 v2 : Value) (w : World) (D1 D2 : List Nat) (hv1 : Cells D1 w v1 l1.length (enVals l1)) (hv2 : Cells D2 w v2 l2.length (enVals l2)) (hn : l1.length ≤ 1152921504606846976) (hn2 : l2.length ≤ 1152921504606846976) :
    Calls Try.prog 63 #[v1, v2] w (SomeB (l1 = l2) w) := by
  obtain ⟨a1, cap1, rfl⟩ := hv1.form
  obtain ⟨a2, cap2, rfl⟩ := hv2.form
  obtain ⟨_, hc1, hcell1⟩ := hv1.at
  obtain ⟨_, hc2, hcell2⟩ := hv2.at
  have HX1 := hid hcell1
  have HX2 := hid hcell2
  clear hcell1 hcell2 hv1 hv2
  by_cases hlen : l1.length = l2.length
  · rw [hlen] at hc1 hn ⊢
    have HL := hid hlen
    clear hlen
    go_enter Try.func63, Try.ntmps63
    go_wp2_with fail
    go_loopw [5] (fun i wr => ∃ k : Nat, i = .int .i64 k ∧ k ≤ l2.length ∧ Hid (l1.take k = l2.take k) ∧ Below w.heap.size w wr) (fun i _ => l2.length - (intOf i).toNat)
    case atStart => exact ⟨0, rfl, Nat.zero_le _, rfl, Below.refl _ _⟩
    case round =>
      obtain ⟨k, rfl, hk, HT, hB⟩ := hrel
      by_cases hlt2 : k < l2.length
      · have hlt1 : k < l1.length := by rw [HL.out]; exact hlt2
        have hk0 : (0 : Int) ≤ (k : Int) := by omega
        have hk1 : (k : Int) < (l2.length : Int) := by omega
        obtain ⟨b1, off1, rfl, hcell1⟩ := HX1.out (by rw [enVals_len]; omega)
        obtain ⟨b2, off2, rfl, hcell2⟩ := HX2.out (by rw [enVals_len]; omega)
        have HC1 := hid hcell1
        have HC2 := hid hcell2
        clear hcell1 hcell2
        have xa0 := HC1.out wr hB _ _ (enVals_at l1 k hlt1).1
        have xa1 := HC1.out wr hB _ _ (enVals_at l1 k hlt1).2.1
        rw [show off1 + (k * 3 + 1) = off1 + k * 3 + 1 by omega] at xa1
        have xa2 := HC1.out wr hB _ _ (enVals_at l1 k hlt1).2.2
        rw [show off1 + (k * 3 + 2) = off1 + k * 3 + 2 by omega] at xa2
        have xb0 := HC2.out wr hB _ _ (enVals_at l2 k hlt2).1
        have xb1 := HC2.out wr hB _ _ (enVals_at l2 k hlt2).2.1
        rw [show off2 + (k * 3 + 1) = off2 + k * 3 + 1 by omega] at xb1
        have xb2 := HC2.out wr hB _ _ (enVals_at l2 k hlt2).2.2
        rw [show off2 + (k * 3 + 2) = off2 + k * 3 + 2 by omega] at xb2
        have HE := hid (fun h => take_eq_succ HT.out hlt1 hlt2 h)
        have HNE := hid (fun (h : l1[k] ≠ l2[k]) (e : l1 = l2) => h (by subst e; rfl))
        have hBs := hB.size
        generalize l1[k] = x at *
        generalize l2[k] = y at *
        by_cases hxy : x = y
        · subst hxy
          have HE' := hid (HE.out rfl)
          clear HE HNE
          have hg := guardEntry
          have hx1 := fun W => neqEntry x x false (by simp) W
          go_wp2_with fail
          go_quiet (fail)
          go_wp2_with fail
          all_goals
            go_roundw
            case rel => exact ⟨k + 1, by go_num, by omega, HE'.out, below_drew_n hB _⟩
            case measure => simp [intOf]; omega
        · have HN' := hid (HNE.out hxy)
          clear HE HNE
          have hg := guardEntry
          have hx1 := fun W => neqEntry x y true (by simp [hxy]) W
          go_wp2_with fail
          go_quiet (fail)
          go_wp2_with fail
          go_ret
          exact ⟨⟨false, rfl, by simp; exact HN'.out⟩, below_drew_n hB _⟩
      · obtain rfl : k = l2.length := by omega
        have HT' : Hid (l1 = l2) := by
          have h := HT.out
          rw [List.take_of_length_le (by rw [HL.out]; omega), List.take_of_length_le (by omega)] at h
          exact h
        go_wp2_with fail
        go_ret
        exact ⟨⟨true, rfl, by simp; exact HT'.out⟩, hB⟩
  · have hne : ((l1.length : Int) != (l2.length : Int)) = true := by simp; omega
    have hne2 : ((l1.length : Int) == (l2.length : Int)) = false := by simp; omega
    have HN := hid (fun (e : l1 = l2) => hlen (by rw [e]))
    clear hlen
    go_enter Try.func63, Try.ntmps63
    go_wp2_with fail
    go_ret
    exact ⟨⟨false, rfl, by simp; exact HN.out⟩, Below.refl _ _⟩

end Go.Proofs.Ytgkapgfpalbkjaa
