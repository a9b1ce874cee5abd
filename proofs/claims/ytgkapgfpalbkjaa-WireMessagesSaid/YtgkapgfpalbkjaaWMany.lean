/-
  The walks of wire.read at ranges and at texts: a list that a closure on the reader reads one element at a time.
-/
import Derived.Test.YtgkapgfpalbkjaaWireP
import Derived.Test.YtgkapgfpalbkjaaWRead
import Derived.OwnWalk
namespace Go.Proofs.Ytgkapgfpalbkjaa
open Go.RowKit
theorem Only.grown {b : Nat} {w w' w'' : World} {row : Option Nat} (h : Only b w w') (hg : w'.grownBy w'' row) (hrow : ∀ j, row = some j → w.heap.size ≤ j) : Only b w w'' :=
  ⟨hg.os.trans h.os, hg.tape.trans h.tape, hg.output.trans h.output, Nat.le_trans h.size hg.size, fun j hj hb => (hg.block j (Nat.lt_of_lt_of_le hj h.size) (fun e => by have := hrow j e.symm; omega)).trans (h.block j hj hb)⟩
theorem RS.grown {b : Nat} {w w' : World} {s : Bytes} {st : Nat × Nat} {row : Option Nat} (h : RS w b s st) (hg : w.grownBy w' row) (hrow : row ≠ some b) : RS w' b s st :=
  ⟨(hg.block b h.lt (fun e => hrow e.symm)).trans h.1, h.2⟩
theorem row_ne {w : World} {base : Nat} {e : TypeId} {size : Nat} {v : Value} {n : Nat} {xs : List Value} (h : w.ownsRow base e size v n xs) {b : Nat} (hb : b < base) : v.ownBlock ≠ some b := by
  intro e'
  have := (h.lt b e').1
  omega
/-- a row that was made there is a slice whose cells lie in none of the elder blocks -/
theorem Cells.of_row {w : World} {base : Nat} {e : TypeId} {size : Nat} {v : Value} {n : Nat} {xs : List Value} (h : w.ownsRow base e size v n xs) (D : List Nat) (hD : ∀ j ∈ D, j < base) : Cells D w v n xs := by
  obtain ⟨hl, h⟩ := h
  rcases h with ⟨rfl, rfl⟩ | ⟨g, cap, cur, rfl, hb, hg, hn, hc, hz, ht⟩
  · exact ⟨none, 0, rfl, Nat.le_refl _, fun hp => by omega⟩
  · refine ⟨some ⟨g, 0, none⟩, cap, rfl, hn, fun hp => ⟨g, 0, rfl, fun hm => by have := hD g hm; omega, fun j hj => ?_⟩⟩
    subst ht
    have hj2 : j < cur.size := by
      rw [List.length_take, Array.length_toList] at hj
      omega
    rw [Nat.zero_add]
    refine cell_in hg j _ ?_
    rw [List.getElem_take]
    simp [hj2]
theorem hold_two {w : World} (x y : Value) (t : TypeId) : ∀ j u, [x, y][j]? = some u → (w.alloc (.cells #[x, y] t)).cell? ((⟨w.heap.size, 0, none⟩ : Addr).add j) = some u := by
  intro j u hu
  have h := heap_alloc_new w (.cells #[x, y] t)
  rw [show (⟨w.heap.size, 0, none⟩ : Addr).add j = ⟨w.heap.size, j, none⟩ from by unfold Addr.add; split <;> simp_all]
  exact cell_in h j u (by simpa using hu)
theorem rgVals_snoc (l : List (Nat × Nat)) (r : Nat × Nat) : rgVals (l ++ [r]) = rgVals l ++ [.int .u64 r.1, .int .u64 r.2] := by simp [rgVals]
theorem strVals_snoc (l : List Bytes) (b : Bytes) : strVals (l ++ [b]) = strVals l ++ [.string (str b)] := by simp [strVals]

theorem infoRanges : (Try.prog.info? 65).map (fun i => (i.zero, i.size, i.bytes)) = some (some (.agg #[.int .u64 0, .int .u64 0]), 2, 16) := by kernel_rfl
set_option maxRecDepth 100000 in
set_option maxHeartbeats 4000000 in
theorem readRanges_any (s : Bytes) (hs : s.length ≤ 1152921504606846976) (m : Nat) (hm : m ≤ 1000) (st0 st1 : Nat × Nat) (n : Nat) (E : Hid (pCount m s st0 = (n, st1))) (b c : Nat) (hne : c ≠ b) (w : World) (hr : RS w b s st0) (hc : w.cell? ⟨c, 0, none⟩ = some (.pointer (some ⟨b, 0, none⟩))) :
    Calls Try.prog 37 #[.pointer (some ⟨b, 0, none⟩), .int .i64 (m : Int), .func (.func 38) #[] #[.pointer (some ⟨c, 0, none⟩)]] w fun x W' => ∃ v, x = .returned v ∧
      W'.ownsRow w.heap.size 65 2 v n (rgVals (many (rdRange s) n st1).1) ∧ RS W' b s (many (rdRange s) n st1).2 ∧ Only b w W' := by
  obtain ⟨i0, hi, hz0, hz1, hz2⟩ := info_parts infoRanges
  have hn : n ≤ 1000 := by have := pCount_le m s st0; rw [E.out] at this; simp only at this; omega
  have hlt := hr.lt
  have hlc := World.block_lt_of_cell? _ _ hc
  simp only at hlc
  have hm' : m ≤ maxLen := by unfold maxLen; omega
  have HR := hid hr
  clear hr
  go_enter Try.func37, Try.ntmps37
  go_wp2_with fail
  refine Calls.mono (rsCountE hm' E.out HR.out hs) ?_
  rintro e w1 ⟨rfl, hr1, hb1⟩
  have hc1 := hb1.cell hne hc
  have HR1 := hid hr1
  have HB1 := hid hb1
  clear hr1 hb1
  go_wp2_with fail
  go_loopw [7, 11] (fun v i wr => ∃ k : Nat, i = .int .i64 k ∧ k ≤ n ∧ wr.ownsRow w.heap.size 65 2 v k (rgVals (many (rdRange s) k st1).1) ∧ RS wr b s (many (rdRange s) k st1).2 ∧ Only b w wr) (fun _ i _ => n - (intOf i).toNat)
  case atStart => exact ⟨0, rfl, Nat.zero_le _, World.ownsRow_nil _ _ _ _, HR1.out, HB1.out⟩
  case round =>
    obtain ⟨k, rfl, hk, ho, hr2, hb2⟩ := hrel
    by_cases hk2 : k < n
    · have hc2 := hb2.cell hne hc
      have HM := hid (show many (rdRange s) (k + 1) st1 = ((many (rdRange s) k st1).1 ++ [((rdRange s) (many (rdRange s) k st1).2).1], ((rdRange s) (many (rdRange s) k st1).2).2) from rfl)
      generalize hst : many (rdRange s) k st1 = p at *
      obtain ⟨l, st⟩ := p
      simp only at ho hr2 HM
      have HR2 := hid hr2
      have HB2 := hid hb2
      have HO := hid ho
      have hsz := hb2.size
      clear hr2 hb2 ho hst
      go_wp2_with fail
      refine Calls.mono (readRange_any s hs st b c hne _ HR2.out hc2) ?_
      rintro e w3 ⟨rfl, hr3, hb3⟩
      have hsz3 := hb3.size
      have ho3 := HO.out.kept hb3 (.inr (row_ne HO.out hlt))
      go_wp2_with (at_builtin; refine wpList_append_own _ rfl _ _ 23 rfl w.heap.size 65 i0 (.agg #[.int .u64 0, .int .u64 0]) 2 16 Try.underlying23 hi hz0 hz1 hz2 rfl (by decide) _ _ _ rfl (ho3.alloc _) ⟨w3.heap.size, 0, none⟩ 1 1 [.int .u64 ((rdRange s st).1.1 : Int), .int .u64 ((rdRange s st).1.2 : Int)] rfl rfl (hold_two _ _ _) (by simp [Value.oneCell']) (by unfold maxLen; omega) (by omega) (by simp; omega) ?_; intro v' w4 hown' hgrow _)
      go_roundw
      case rel =>
        refine ⟨k + 1, by go_num, by omega, ?_, ?_, ?_⟩
        · rw [HM.out]
          simp only [rgVals_snoc]
          exact hown'
        · rw [HM.out]
          exact (hr3.alloc _).grown hgrow (row_ne ho3 hlt)
        · exact ((HB2.out.trans hb3).trans (.of_below ((Below.refl _ _).alloc (Nat.le_refl _) _))).grown hgrow (fun j ej => (ho3.lt j ej).1)
      case measure => simp [intOf]; omega
    · obtain rfl : k = n := by omega
      have HR2 := hid hr2
      have HB2 := hid hb2
      have HO := hid ho
      clear hr2 hb2 ho
      go_wp2_with fail
      go_ret
      exact ⟨_, rfl, HO.out, HR2.out, HB2.out⟩

theorem infoFlags : (Try.prog.info? 9).map (fun i => (i.zero, i.size, i.bytes)) = some (some (.string { data := #[] }), 1, 16) := by kernel_rfl
set_option maxRecDepth 100000 in
set_option maxHeartbeats 4000000 in
theorem readFlags_any (s : Bytes) (hs : s.length ≤ 1152921504606846976) (m : Nat) (hm : m ≤ 1000) (st0 st1 : Nat × Nat) (n : Nat) (E : Hid (pCount m s st0 = (n, st1))) (b c : Nat) (hne : c ≠ b) (w : World) (hr : RS w b s st0) (hc : w.cell? ⟨c, 0, none⟩ = some (.pointer (some ⟨b, 0, none⟩))) :
    Calls Try.prog 39 #[.pointer (some ⟨b, 0, none⟩), .int .i64 (m : Int), .func (.func 40) #[] #[.pointer (some ⟨c, 0, none⟩)]] w fun x W' => ∃ v, x = .returned v ∧
      W'.ownsRow w.heap.size 9 1 v n (strVals (many (pText 32 s) n st1).1) ∧ RS W' b s (many (pText 32 s) n st1).2 ∧ Only b w W' := by
  obtain ⟨i0, hi, hz0, hz1, hz2⟩ := info_parts infoFlags
  have hn : n ≤ 1000 := by have := pCount_le m s st0; rw [E.out] at this; simp only at this; omega
  have hlt := hr.lt
  have hlc := World.block_lt_of_cell? _ _ hc
  simp only at hlc
  have hm' : m ≤ maxLen := by unfold maxLen; omega
  have HR := hid hr
  clear hr
  go_enter Try.func39, Try.ntmps39
  go_wp2_with fail
  refine Calls.mono (rsCountE hm' E.out HR.out hs) ?_
  rintro e w1 ⟨rfl, hr1, hb1⟩
  have hc1 := hb1.cell hne hc
  have HR1 := hid hr1
  have HB1 := hid hb1
  clear hr1 hb1
  go_wp2_with fail
  go_loopw [7, 11] (fun v i wr => ∃ k : Nat, i = .int .i64 k ∧ k ≤ n ∧ wr.ownsRow w.heap.size 9 1 v k (strVals (many (pText 32 s) k st1).1) ∧ RS wr b s (many (pText 32 s) k st1).2 ∧ Only b w wr) (fun _ i _ => n - (intOf i).toNat)
  case atStart => exact ⟨0, rfl, Nat.zero_le _, World.ownsRow_nil _ _ _ _, HR1.out, HB1.out⟩
  case round =>
    obtain ⟨k, rfl, hk, ho, hr2, hb2⟩ := hrel
    by_cases hk2 : k < n
    · have hc2 := hb2.cell hne hc
      have HM := hid (show many (pText 32 s) (k + 1) st1 = ((many (pText 32 s) k st1).1 ++ [((pText 32 s) (many (pText 32 s) k st1).2).1], ((pText 32 s) (many (pText 32 s) k st1).2).2) from rfl)
      generalize hst : many (pText 32 s) k st1 = p at *
      obtain ⟨l, st⟩ := p
      simp only at ho hr2 HM
      have HR2 := hid hr2
      have HB2 := hid hb2
      have HO := hid ho
      have hsz := hb2.size
      clear hr2 hb2 ho hst
      go_wp2_with fail
      refine Calls.mono (readFlag_any s hs st b c _ HR2.out hc2) ?_
      rintro e w3 ⟨rfl, hr3, hb3⟩
      have hsz3 := hb3.size
      have ho3 := HO.out.kept hb3 (.inr (row_ne HO.out hlt))
      go_wp2_with (at_builtin; refine wpList_append_own _ rfl _ _ 24 rfl w.heap.size 9 i0 (.string { data := #[] }) 1 16 Try.underlying24 hi hz0 hz1 hz2 rfl (by decide) _ _ _ rfl (ho3.alloc _) ⟨w3.heap.size, 0, none⟩ 1 1 [.string (str (pText 32 s st).1)] rfl rfl (cell_one_new _ _ _) (by simp [Value.oneCell']) (by unfold maxLen; omega) (by omega) (by simp; omega) ?_; intro v' w4 hown' hgrow _)
      go_roundw
      case rel =>
        refine ⟨k + 1, by go_num, by omega, ?_, ?_, ?_⟩
        · rw [HM.out]
          simp only [strVals_snoc]
          exact hown'
        · rw [HM.out]
          exact (hr3.alloc _).grown hgrow (row_ne ho3 hlt)
        · exact ((HB2.out.trans hb3).trans (.of_below ((Below.refl _ _).alloc (Nat.le_refl _) _))).grown hgrow (fun j ej => (ho3.lt j ej).1)
      case measure => simp [intOf]; omega
    · obtain rfl : k = n := by omega
      have HR2 := hid hr2
      have HB2 := hid hb2
      have HO := hid ho
      clear hr2 hb2 ho
      go_wp2_with fail
      go_ret
      exact ⟨_, rfl, HO.out, HR2.out, HB2.out⟩

end Go.Proofs.Ytgkapgfpalbkjaa
