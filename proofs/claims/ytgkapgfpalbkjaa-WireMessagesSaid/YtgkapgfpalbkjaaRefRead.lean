/-
  The walks of the reference's reader: fail, Num, Count, Text.
-/
import Derived.Test.YtgkapgfpalbkjaaRefAt
import Derived.Test.YtgkapgfpalbkjaaWireP
import Derived.Deep.QuietTactic
import Derived.BigQuiet
namespace Go.Proofs.Ytgkapgfpalbkjaa
open Go.RowKit
set_option linter.unusedVariables false
set_option linter.unusedSimpArgs false
def rrCells (s : Bytes) (t e : Nat) (pl : Int) : Array Value := #[.string (str s), .int .i64 (t : Int), .int .i64 (e : Int), .int .i64 pl]
/-- the reference's reader in block b reads s; st: its place, its fault -/
def RR (w : World) (b : Nat) (s : Bytes) (st : Nat × Nat) : Prop := ∃ pl : Int, w.heap[b]? = some (.cells (rrCells s st.1 st.2 pl) 81) ∧ st.1 ≤ s.length
theorem RR.lt {w b s st} (h : RR w b s st) : b < w.heap.size := by obtain ⟨_, h, _⟩ := h; exact (Array.getElem?_eq_some_iff.1 h).1
theorem at_same (s : Bytes) (t : Nat) (ht : t ≤ s.length) (hs : s.length ≤ 1152921504606846976) (w : World) :
    Calls Try.prog 75 #[.string (str s), .int .i64 (t : Int)] w fun e w' => e = .returned (.tuple #[.int .u64 ((atOf s t).1 : Nat), .int .i64 ((atOf s t).2.1 : Nat), .int .i64 ((atOf s t).2.2 : Nat)]) ∧ w' = w :=
  (at_any s t ht hs w).mono fun _ _ ⟨a, b⟩ => ⟨a, b.symm⟩
theorem onlySet {w : World} {b : Nat} (o : Nat) (v : Value) : Only b w (w.setCell ⟨b, o, none⟩ v) := (Only.refl b w).set o v
set_option maxHeartbeats 1000000 in
theorem rfail_any (s : Bytes) (t e : Nat) (er : Nat) (pl : Int) (b : Nat) (w : World) (h : w.heap[b]? = some (.cells (rrCells s t e pl) 81)) :
    Calls Try.prog 76 #[.pointer (some ⟨b, 0, none⟩), .int .i64 (er : Int)] w fun x w' => x = .returned (.tuple #[]) ∧ w'.heap[b]? = some (.cells (rrCells s t er t) 81) ∧ Only b w w' := by
  have c0 : w.cell? ⟨b, 1, none⟩ = some (.int .i64 (t : Int)) := cell_in h 1 _ rfl
  have c2 : w.cell? ⟨b, 2, none⟩ = some (.int .i64 (e : Int)) := cell_in h 2 _ rfl
  have c3 : w.cell? ⟨b, 3, none⟩ = some (.int .i64 pl) := cell_in h 3 _ rfl
  have f2 := free_in h 2
  have f3 := free_in h 3
  have HH := hid h
  clear h
  go_enter Try.func76, Try.ntmps76
  go_wp2_with fail
  go_end0
  exact ⟨rfl, heap_set (heap_set HH.out 2 (.int .i64 (er : Int))) 3 (.int .i64 (t : Int)), (onlySet 2 _).set 3 _⟩
theorem bnd_no {room : Bool} {s : Bytes} {t e m : Nat} (he : e ≠ 0) : bnd room s t e m = (0, 0, t, e) := by unfold bnd; rw [if_pos he]
theorem scan_no {s : Bytes} {t : Nat} {n z er : Nat} (h : scan0 (s.drop t) = (n, z, er)) (he : er ≠ 0) {room : Bool} {m : Nat} : bnd room s t 0 m = (0, 0, t, er) := by
  unfold bnd; rw [if_neg (by simp), h]; simp only; rw [if_pos he]
theorem scan_long {s : Bytes} {t : Nat} {n z : Nat} (h : scan0 (s.drop t) = (n, z, 0)) {room : Bool} {m : Nat} (hm : m < n) : bnd room s t 0 m = (0, 0, t, 2) := by
  unfold bnd; rw [if_neg (by simp), h]; simp only; rw [if_neg (by simp), if_pos hm]
theorem scan_short {s : Bytes} {t : Nat} {n z : Nat} (h : scan0 (s.drop t) = (n, z, 0)) {m : Nat} (hm : ¬ m < n) (hr : s.length - t - z < n) : bnd true s t 0 m = (0, 0, t, 3) := by
  unfold bnd; rw [if_neg (by simp), h]; simp only; rw [if_neg (by simp), if_neg hm, if_pos (by simpa using hr)]
theorem scan_yes {s : Bytes} {t : Nat} {n z : Nat} (h : scan0 (s.drop t) = (n, z, 0)) {room : Bool} {m : Nat} (hm : ¬ m < n) (hr : room = true → ¬ s.length - t - z < n) : bnd room s t 0 m = (n, z, t + z, 0) := by
  unfold bnd; rw [if_neg (by simp), h]; simp only; rw [if_neg (by simp), if_neg hm]
  cases room
  · simp
  · rw [if_neg (by simpa using hr rfl)]
set_option maxRecDepth 100000 in
set_option maxHeartbeats 2000000 in
theorem rrNum {s : Bytes} {st : Nat × Nat} {b : Nat} {w : World} (h : RR w b s st) (hs : s.length ≤ 1152921504606846976) :
    Calls Try.prog 43 #[.pointer (some ⟨b, 0, none⟩)] w fun x w' => x = .returned (.int .u64 ((pNum s st).1 : Nat)) ∧ RR w' b s (pNum s st).2 ∧ Only b w w' := by
  obtain ⟨pl, hb, ht⟩ := h
  obtain ⟨t, e⟩ := st
  simp only at hb ht
  have hlt : b < w.heap.size := (Array.getElem?_eq_some_iff.1 hb).1
  have c0 : w.cell? ⟨b, 0, none⟩ = some (.string (str s)) := cell_in hb 0 _ rfl
  have c1 : w.cell? ⟨b, 1, none⟩ = some (.int .i64 (t : Int)) := cell_in hb 1 _ rfl
  have c2 : w.cell? ⟨b, 2, none⟩ = some (.int .i64 (e : Int)) := cell_in hb 2 _ rfl
  have f1 := free_in hb 1
  have hz : (str s).size = s.length := str_size _
  have HB := hid hb
  clear hb
  by_cases he : e ≠ 0
  · have he1 : ((e : Int) == 0) = false := by simpa using he
    have he2 : ((e : Int) != 0) = true := by simpa using he
    have HP := hid (show pNum s (t, e) = (0, (t, e)) by unfold pNum; rw [bnd_no he])
    clear he
    go_enter Try.func43, Try.ntmps43
    go_wp2_with fail
    go_ret
    rw [HP.out]
    exact ⟨rfl, ⟨pl, HB.out, ht⟩, Only.refl _ _⟩
  obtain rfl : e = 0 := by omega
  clear he
  rcases hsc : scan0 (s.drop t) with ⟨n, z, er⟩
  by_cases her : er ≠ 0
  · have hA := hid (fun W => by have := at_same s t ht hs W; rw [atOf_err hsc her] at this; exact this)
    have he1 : ((er : Int) == 0) = false := by simpa using her
    have he2 : ((er : Int) != 0) = true := by simpa using her
    have HP := hid (show pNum s (t, 0) = (0, (t, er)) by unfold pNum; rw [scan_no hsc her])
    clear hsc her
    go_enter Try.func43, Try.ntmps43
    go_wp2_with fail
    go_quiet ((go_at_call 75; exact Calls.quiet_of_same (hA.out _)))
    go_wp2_with fail
    refine Calls.mono (rfail_any s t 0 er pl b _ (by exact HB.out)) ?_
    rintro x w1 ⟨rfl, hb1, ho1⟩
    go_wp2_with fail
    go_ret
    rw [HP.out]
    exact ⟨rfl, ⟨_, hb1, ht⟩, ((Only.refl b w).drewN _).trans ho1⟩
  obtain rfl : er = 0 := by omega
  clear her
  obtain ⟨g1, g2, g3, g4⟩ := scan0_one _ n z hsc
  rw [List.length_drop] at g3
  have hA := hid (fun W => by have := at_same s t ht hs W; rw [atOf_ok hsc] at this; exact this)
  unfold top64 at g1
  clear g4
  have HP := hid (show pNum s (t, 0) = (n, (t + z, 0)) by unfold pNum; rw [scan_yes hsc (by omega) (by simp)])
  clear hsc
  go_enter Try.func43, Try.ntmps43
  go_wp2_with fail
  go_quiet ((go_at_call 75; exact Calls.quiet_of_same (hA.out _)))
  go_wp2_with fail
  go_ret
  rw [HP.out]
  exact ⟨rfl, ⟨pl, heap_set (show (w.drewN _).heap[b]? = _ from HB.out) 1 (.int .i64 ((t + z : Nat) : Int)), by simp only; omega⟩, ((Only.refl b w).drewN _).set 1 _⟩
set_option maxRecDepth 100000 in
set_option maxHeartbeats 2000000 in
theorem rrCount {s : Bytes} {st : Nat × Nat} {b : Nat} {w : World} (m : Nat) (hm : m ≤ 1000000000) (h : RR w b s st) (hs : s.length ≤ 1152921504606846976) :
    Calls Try.prog 45 #[.pointer (some ⟨b, 0, none⟩), .int .i64 (m : Int)] w fun x w' => x = .returned (.int .i64 ((pCount m s st).1 : Nat)) ∧ RR w' b s (pCount m s st).2 ∧ Only b w w' := by
  have hmw : IntKind.u64.wrap (m : Int) = (m : Int) := by rw [IntKind.wrap_u64]; omega
  obtain ⟨pl, hb, ht⟩ := h
  obtain ⟨t, e⟩ := st
  simp only at hb ht
  have hlt : b < w.heap.size := (Array.getElem?_eq_some_iff.1 hb).1
  have c0 : w.cell? ⟨b, 0, none⟩ = some (.string (str s)) := cell_in hb 0 _ rfl
  have c1 : w.cell? ⟨b, 1, none⟩ = some (.int .i64 (t : Int)) := cell_in hb 1 _ rfl
  have c2 : w.cell? ⟨b, 2, none⟩ = some (.int .i64 (e : Int)) := cell_in hb 2 _ rfl
  have f1 := free_in hb 1
  have hz : (str s).size = s.length := str_size _
  have HB := hid hb
  clear hb
  by_cases he : e ≠ 0
  · have he1 : ((e : Int) == 0) = false := by simpa using he
    have he2 : ((e : Int) != 0) = true := by simpa using he
    have HP := hid (show pCount m s (t, e) = (0, (t, e)) by unfold pCount; rw [bnd_no he])
    clear he
    go_enter Try.func45, Try.ntmps45
    go_wp2_with fail
    go_ret
    rw [HP.out]
    exact ⟨rfl, ⟨pl, HB.out, ht⟩, Only.refl _ _⟩
  obtain rfl : e = 0 := by omega
  clear he
  rcases hsc : scan0 (s.drop t) with ⟨n, z, er⟩
  by_cases her : er ≠ 0
  · have hA := hid (fun W => by have := at_same s t ht hs W; rw [atOf_err hsc her] at this; exact this)
    have he1 : ((er : Int) == 0) = false := by simpa using her
    have he2 : ((er : Int) != 0) = true := by simpa using her
    have HP := hid (show pCount m s (t, 0) = (0, (t, er)) by unfold pCount; rw [scan_no hsc her])
    clear hsc her
    go_enter Try.func45, Try.ntmps45
    go_wp2_with fail
    go_quiet ((go_at_call 75; exact Calls.quiet_of_same (hA.out _)))
    go_wp2_with fail
    refine Calls.mono (rfail_any s t 0 er pl b _ (by exact HB.out)) ?_
    rintro x w1 ⟨rfl, hb1, ho1⟩
    go_wp2_with fail
    go_ret
    rw [HP.out]
    exact ⟨rfl, ⟨_, hb1, ht⟩, ((Only.refl b w).drewN _).trans ho1⟩
  obtain rfl : er = 0 := by omega
  clear her
  obtain ⟨g1, g2, g3, g4⟩ := scan0_one _ n z hsc
  rw [List.length_drop] at g3
  have hA := hid (fun W => by have := at_same s t ht hs W; rw [atOf_ok hsc] at this; exact this)
  unfold top64 at g1
  clear g4
  by_cases hmn : m < n
  · have HP := hid (show pCount m s (t, 0) = (0, (t, 2)) by unfold pCount; rw [scan_long hsc hmn])
    clear hsc
    go_enter Try.func45, Try.ntmps45
    go_wp2_with fail
    go_quiet ((go_at_call 75; exact Calls.quiet_of_same (hA.out _)))
    go_wp2_with fail
    refine Calls.mono (rfail_any s t 0 2 pl b _ (by exact HB.out)) ?_
    rintro x w1 ⟨rfl, hb1, ho1⟩
    go_wp2_with fail
    go_ret
    rw [HP.out]
    exact ⟨rfl, ⟨_, hb1, ht⟩, ((Only.refl b w).drewN _).trans ho1⟩
  have HP := hid (show pCount m s (t, 0) = (n, (t + z, 0)) by unfold pCount; rw [scan_yes hsc hmn (by simp)])
  clear hsc
  go_enter Try.func45, Try.ntmps45
  go_wp2_with fail
  go_quiet ((go_at_call 75; exact Calls.quiet_of_same (hA.out _)))
  go_wp2_with fail
  go_ret
  rw [HP.out]
  exact ⟨rfl, ⟨pl, heap_set (show (w.drewN _).heap[b]? = _ from HB.out) 1 (.int .i64 ((t + z : Nat) : Int)), by simp only; omega⟩, ((Only.refl b w).drewN _).set 1 _⟩
set_option maxRecDepth 100000 in
set_option maxHeartbeats 4000000 in
theorem rrText {s : Bytes} {st : Nat × Nat} {b : Nat} {w : World} (m : Nat) (hm : m ≤ 1000000000) (h : RR w b s st) (hs : s.length ≤ 1152921504606846976) :
    Calls Try.prog 44 #[.pointer (some ⟨b, 0, none⟩), .int .i64 (m : Int)] w fun x w' => x = .returned (.string (str (pText m s st).1)) ∧ RR w' b s (pText m s st).2 ∧ Only b w w' := by
  have hmw : IntKind.u64.wrap (m : Int) = (m : Int) := by rw [IntKind.wrap_u64]; omega
  obtain ⟨pl, hb, ht⟩ := h
  obtain ⟨t, e⟩ := st
  simp only at hb ht
  have hlt : b < w.heap.size := (Array.getElem?_eq_some_iff.1 hb).1
  have c0 : w.cell? ⟨b, 0, none⟩ = some (.string (str s)) := cell_in hb 0 _ rfl
  have c1 : w.cell? ⟨b, 1, none⟩ = some (.int .i64 (t : Int)) := cell_in hb 1 _ rfl
  have c2 : w.cell? ⟨b, 2, none⟩ = some (.int .i64 (e : Int)) := cell_in hb 2 _ rfl
  have f1 := free_in hb 1
  have hz : (str s).size = s.length := str_size _
  have HB := hid hb
  clear hb
  by_cases he : e ≠ 0
  · have he1 : ((e : Int) == 0) = false := by simpa using he
    have he2 : ((e : Int) != 0) = true := by simpa using he
    have HP := hid (show pText m s (t, e) = ([], (t, e)) by unfold pText rtext; rw [bnd_no he]; rfl)
    clear he
    go_enter Try.func44, Try.ntmps44
    go_wp2_with fail
    go_ret
    rw [HP.out]
    exact ⟨rfl, ⟨pl, HB.out, ht⟩, Only.refl _ _⟩
  obtain rfl : e = 0 := by omega
  clear he
  rcases hsc : scan0 (s.drop t) with ⟨n, z, er⟩
  by_cases her : er ≠ 0
  · have hA := hid (fun W => by have := at_same s t ht hs W; rw [atOf_err hsc her] at this; exact this)
    have he1 : ((er : Int) == 0) = false := by simpa using her
    have he2 : ((er : Int) != 0) = true := by simpa using her
    have HP := hid (show pText m s (t, 0) = ([], (t, er)) by unfold pText rtext; rw [scan_no hsc her]; rfl)
    clear hsc her
    go_enter Try.func44, Try.ntmps44
    go_wp2_with fail
    go_quiet ((go_at_call 75; exact Calls.quiet_of_same (hA.out _)))
    go_wp2_with fail
    refine Calls.mono (rfail_any s t 0 er pl b _ (by exact HB.out)) ?_
    rintro x w1 ⟨rfl, hb1, ho1⟩
    go_wp2_with fail
    go_ret
    rw [HP.out]
    exact ⟨rfl, ⟨_, hb1, ht⟩, ((Only.refl b w).drewN _).trans ho1⟩
  obtain rfl : er = 0 := by omega
  clear her
  obtain ⟨g1, g2, g3, g4⟩ := scan0_one _ n z hsc
  rw [List.length_drop] at g3
  have hA := hid (fun W => by have := at_same s t ht hs W; rw [atOf_ok hsc] at this; exact this)
  unfold top64 at g1
  clear g4
  by_cases hmn : m < n
  · have HP := hid (show pText m s (t, 0) = ([], (t, 2)) by unfold pText rtext; rw [scan_long hsc hmn]; rfl)
    clear hsc
    go_enter Try.func44, Try.ntmps44
    go_wp2_with fail
    go_quiet ((go_at_call 75; exact Calls.quiet_of_same (hA.out _)))
    go_wp2_with fail
    refine Calls.mono (rfail_any s t 0 2 pl b _ (by exact HB.out)) ?_
    rintro x w1 ⟨rfl, hb1, ho1⟩
    go_wp2_with fail
    go_ret
    rw [HP.out]
    exact ⟨rfl, ⟨_, hb1, ht⟩, ((Only.refl b w).drewN _).trans ho1⟩
  have hzt : t + z ≤ s.length := by omega
  have hS1 := hid (fun (h : s.length - (t + z) < n) => show pText m s (t, 0) = ([], (t, 3)) by unfold pText rtext; rw [scan_short hsc hmn (by omega)]; rfl)
  have hS2 := hid (fun (h : ¬ s.length - (t + z) < n) => show pText m s (t, 0) = ((s.drop (t + z)).take n, (t + z + n, 0)) by unfold pText rtext; rw [scan_yes hsc hmn (fun _ => by omega)]; simp only; rw [if_neg (by omega)])
  clear hsc g3
  generalize hq : t + z = q at *
  clear hq
  by_cases hrn : s.length - q < n
  · have HP := hid (hS1.out hrn)
    have hi1 : (s.length : Int) - (q : Int) < (n : Int) := by omega
    clear hS1 hS2 hrn
    go_enter Try.func44, Try.ntmps44
    go_wp2_with fail
    go_quiet ((go_at_call 75; exact Calls.quiet_of_same (hA.out _)))
    go_wp2_with fail
    refine Calls.mono (rfail_any s t 0 3 pl b _ (by exact HB.out)) ?_
    rintro x w1 ⟨rfl, hb1, ho1⟩
    go_wp2_with fail
    go_ret
    rw [HP.out]
    exact ⟨rfl, ⟨_, hb1, ht⟩, ((Only.refl b w).drewN _).trans ho1⟩
  have hi1 : (n : Int) ≤ (s.length : Int) - (q : Int) := by omega
  have HP := hid (hS2.out hrn)
  have hx : (str s).extract q (q + n) = str ((s.drop q).take n) := by rw [extract_str, str_data, Nat.add_sub_cancel_left]
  have hq0 : (0 : Int) ≤ (q : Int) := by omega
  clear hS1 hS2 hrn
  go_enter Try.func44, Try.ntmps44
  go_wp2_with fail
  go_quiet ((go_at_call 75; exact Calls.quiet_of_same (hA.out _)))
  go_wp2_with fail
  go_quiet (fail)
  go_wp2_with fail
  rw [hx]
  go_ret
  rw [HP.out]
  exact ⟨rfl, ⟨pl, heap_set (show (w.drewN _).heap[b]? = _ from HB.out) 1 (.int .i64 ((q + n : Nat) : Int)), by simp only; omega⟩, (((Only.refl b w).drewN _).set 1 _).drewN _⟩
end Go.Proofs.Ytgkapgfpalbkjaa
