/-
  A chain of reads beside a variable of many cells: the state, the reads, the stores into the variable. (Several texts in one.)
-/
import Derived.Deep.QuietTactic
import Derived.BigQuiet
import Derived.Deep.RegionHeld3
import Derived.OrdersHeld
import Derived.Laws.Tables
import Derived.Test.YtmehcogaopackaaGreatGB
import Derived.Test.YtmehcogaopackaaGreatGA
/- The walks of the reference's reader: fail, Num, Count, Text. -/
namespace Go.Proofs.YtmehcogaopackaaGreat
open Go.RowKit
set_option linter.unusedVariables false
set_option linter.unusedSimpArgs false
def rrCells (s : Bytes) (t e : Nat) (pl : Int) : Array Value := #[.string (str s), .int .i64 (t : Int), .int .i64 (e : Int), .int .i64 pl]
/-- the reference's reader in block b reads s; st: its place, its fault -/
def RR (w : World) (b : Nat) (s : Bytes) (st : Nat × Nat) : Prop := ∃ pl : Int, w.heap[b]? = some (.cells (rrCells s st.1 st.2 pl) 185) ∧ st.1 ≤ s.length
theorem RR.lt {w b s st} (h : RR w b s st) : b < w.heap.size := by obtain ⟨_, h, _⟩ := h; exact (Array.getElem?_eq_some_iff.1 h).1
theorem at_same (s : Bytes) (t : Nat) (ht : t ≤ s.length) (hs : s.length ≤ 1152921504606846976) (w : World) :
    Calls Tryz.prog 131 #[.string (str s), .int .i64 (t : Int)] w fun e w' => e = .returned (.tuple #[.int .u64 ((atOf s t).1 : Nat), .int .i64 ((atOf s t).2.1 : Nat), .int .i64 ((atOf s t).2.2 : Nat)]) ∧ w' = w :=
  (at_any s t ht hs w).mono fun _ _ ⟨a, b⟩ => ⟨a, b.symm⟩
theorem onlySet {w : World} {b : Nat} (o : Nat) (v : Value) : Only b w (w.setCell ⟨b, o, none⟩ v) := (Only.refl b w).set o v
set_option maxHeartbeats 1000000 in
theorem rfail_any (s : Bytes) (t e : Nat) (er : Nat) (pl : Int) (b : Nat) (w : World) (h : w.heap[b]? = some (.cells (rrCells s t e pl) 185)) :
    Calls Tryz.prog 132 #[.pointer (some ⟨b, 0, none⟩), .int .i64 (er : Int)] w fun x w' => x = .returned (.tuple #[]) ∧ w'.heap[b]? = some (.cells (rrCells s t er t) 185) ∧ Only b w w' := by
  have c0 : w.cell? ⟨b, 1, none⟩ = some (.int .i64 (t : Int)) := cell_in h 1 _ rfl
  have c2 : w.cell? ⟨b, 2, none⟩ = some (.int .i64 (e : Int)) := cell_in h 2 _ rfl
  have c3 : w.cell? ⟨b, 3, none⟩ = some (.int .i64 pl) := cell_in h 3 _ rfl
  have f2 := free_in h 2
  have f3 := free_in h 3
  have HH := hid h
  clear h
  go_enter Tryz.func132, Tryz.ntmps132
  go_wp2_with fail
  go_end0
  exact ⟨rfl, heap_set (heap_set HH.out 2 (.int .i64 (er : Int))) 3 (.int .i64 (t : Int)), (onlySet 2 _).set 3 _⟩
theorem bnd_no {room : Bool} {s : Bytes} {t e m : Nat} (he : e ≠ 0) : bnd room s t e m = (0, 0, t, e) := by unfold bnd; rw [if_pos he]
theorem scan_no {s : Bytes} {t : Nat} {n z er : Nat} (h : scan0 (s.drop t) = (n, z, er)) (he : er ≠ 0) {room : Bool} {m : Nat} : bnd room s t 0 m = (0, 0, t, er) := by
  unfold bnd; rw [if_neg (by simp), h]; simp only; rw [if_pos he]
theorem scan_long {s : Bytes} {t : Nat} {n z : Nat} (h : scan0 (s.drop t) = (n, z, 0)) {room : Bool} {m : Nat} (hm : m < n) : bnd room s t 0 m = (0, 0, t, 2) := by
  unfold bnd; rw [if_neg (by simp), h]; simp only; rw [if_neg (by simp), if_pos hm]
theorem scan_short {s : Bytes} {t : Nat} {n z : Nat} (h : scan0 (s.drop t) = (n, z, 0)) {m : Nat} (hm : ¬ m < n) (hr : s.length - t - z < n) : bnd true s t 0 m = (0, 0, t, 3) := by
  unfold bnd; rw [if_neg (by simp), h]; simp only; rw [if_neg (by simp), if_neg hm, if_pos (by simpa using hr)]
theorem scan_yes {s : Bytes} {t : Nat} {n z : Nat} (h : scan0 (s.drop t) = (n, z, 0)) {room : Bool} {m : Nat} (hm : ¬ m < n) (hr : room = true → ¬ s.length - t - z < n) : bnd room s t 0 m = (n, z, t + z, 0) := by
  unfold bnd; rw [if_neg (by simp), h]; simp only; rw [if_neg (by simp), if_neg hm]
  cases room
  · simp
  · rw [if_neg (by simpa using hr rfl)]
set_option maxRecDepth 100000 in
set_option maxHeartbeats 2000000 in
theorem rrNum {s : Bytes} {st : Nat × Nat} {b : Nat} {w : World} (h : RR w b s st) (hs : s.length ≤ 1152921504606846976) :
    Calls Tryz.prog 120 #[.pointer (some ⟨b, 0, none⟩)] w fun x w' => x = .returned (.int .u64 ((pNum s st).1 : Nat)) ∧ RR w' b s (pNum s st).2 ∧ Only b w w' := by
  obtain ⟨pl, hb, ht⟩ := h
  obtain ⟨t, e⟩ := st
  simp only at hb ht
  have hlt : b < w.heap.size := (Array.getElem?_eq_some_iff.1 hb).1
  have c0 : w.cell? ⟨b, 0, none⟩ = some (.string (str s)) := cell_in hb 0 _ rfl
  have c1 : w.cell? ⟨b, 1, none⟩ = some (.int .i64 (t : Int)) := cell_in hb 1 _ rfl
  have c2 : w.cell? ⟨b, 2, none⟩ = some (.int .i64 (e : Int)) := cell_in hb 2 _ rfl
  have f1 := free_in hb 1
  have hz : (str s).size = s.length := str_size _
  have HB := hid hb
  clear hb
  by_cases he : e ≠ 0
  · have he1 : ((e : Int) == 0) = false := by simpa using he
    have he2 : ((e : Int) != 0) = true := by simpa using he
    have HP := hid (show pNum s (t, e) = (0, (t, e)) by unfold pNum; rw [bnd_no he])
    clear he
    go_enter Tryz.func120, Tryz.ntmps120
    go_wp2_with fail
    go_ret
    rw [HP.out]
    exact ⟨rfl, ⟨pl, HB.out, ht⟩, Only.refl _ _⟩
  obtain rfl : e = 0 := by omega
  clear he
  rcases hsc : scan0 (s.drop t) with ⟨n, z, er⟩
  by_cases her : er ≠ 0
  · have hA := hid (fun W => by have := at_same s t ht hs W; rw [atOf_err hsc her] at this; exact this)
    have he1 : ((er : Int) == 0) = false := by simpa using her
    have he2 : ((er : Int) != 0) = true := by simpa using her
    have HP := hid (show pNum s (t, 0) = (0, (t, er)) by unfold pNum; rw [scan_no hsc her])
    clear hsc her
    go_enter Tryz.func120, Tryz.ntmps120
    go_wp2_with fail
    go_quiet ((go_at_call 131; exact Calls.quiet_of_same (hA.out _)))
    go_wp2_with fail
    refine Calls.mono (rfail_any s t 0 er pl b _ (by exact HB.out)) ?_
    rintro x w1 ⟨rfl, hb1, ho1⟩
    go_wp2_with fail
    go_ret
    rw [HP.out]
    exact ⟨rfl, ⟨_, hb1, ht⟩, ((Only.refl b w).drewN _).trans ho1⟩
  obtain rfl : er = 0 := by omega
  clear her
  obtain ⟨g1, g2, g3, g4⟩ := scan0_one _ n z hsc
  rw [List.length_drop] at g3
  have hA := hid (fun W => by have := at_same s t ht hs W; rw [atOf_ok hsc] at this; exact this)
  unfold top64 at g1
  clear g4
  have HP := hid (show pNum s (t, 0) = (n, (t + z, 0)) by unfold pNum; rw [scan_yes hsc (by omega) (by simp)])
  clear hsc
  go_enter Tryz.func120, Tryz.ntmps120
  go_wp2_with fail
  go_quiet ((go_at_call 131; exact Calls.quiet_of_same (hA.out _)))
  go_wp2_with fail
  go_ret
  rw [HP.out]
  exact ⟨rfl, ⟨pl, heap_set (show (w.drewN _).heap[b]? = _ from HB.out) 1 (.int .i64 ((t + z : Nat) : Int)), by simp only; omega⟩, ((Only.refl b w).drewN _).set 1 _⟩
set_option maxRecDepth 100000 in
set_option maxHeartbeats 2000000 in
theorem rrCount {s : Bytes} {st : Nat × Nat} {b : Nat} {w : World} (m : Nat) (hm : m ≤ 1000000000) (h : RR w b s st) (hs : s.length ≤ 1152921504606846976) :
    Calls Tryz.prog 121 #[.pointer (some ⟨b, 0, none⟩), .int .i64 (m : Int)] w fun x w' => x = .returned (.int .i64 ((pCount m s st).1 : Nat)) ∧ RR w' b s (pCount m s st).2 ∧ Only b w w' := by
  have hmw : IntKind.u64.wrap (m : Int) = (m : Int) := by rw [IntKind.wrap_u64]; omega
  obtain ⟨pl, hb, ht⟩ := h
  obtain ⟨t, e⟩ := st
  simp only at hb ht
  have hlt : b < w.heap.size := (Array.getElem?_eq_some_iff.1 hb).1
  have c0 : w.cell? ⟨b, 0, none⟩ = some (.string (str s)) := cell_in hb 0 _ rfl
  have c1 : w.cell? ⟨b, 1, none⟩ = some (.int .i64 (t : Int)) := cell_in hb 1 _ rfl
  have c2 : w.cell? ⟨b, 2, none⟩ = some (.int .i64 (e : Int)) := cell_in hb 2 _ rfl
  have f1 := free_in hb 1
  have hz : (str s).size = s.length := str_size _
  have HB := hid hb
  clear hb
  by_cases he : e ≠ 0
  · have he1 : ((e : Int) == 0) = false := by simpa using he
    have he2 : ((e : Int) != 0) = true := by simpa using he
    have HP := hid (show pCount m s (t, e) = (0, (t, e)) by unfold pCount; rw [bnd_no he])
    clear he
    go_enter Tryz.func121, Tryz.ntmps121
    go_wp2_with fail
    go_ret
    rw [HP.out]
    exact ⟨rfl, ⟨pl, HB.out, ht⟩, Only.refl _ _⟩
  obtain rfl : e = 0 := by omega
  clear he
  rcases hsc : scan0 (s.drop t) with ⟨n, z, er⟩
  by_cases her : er ≠ 0
  · have hA := hid (fun W => by have := at_same s t ht hs W; rw [atOf_err hsc her] at this; exact this)
    have he1 : ((er : Int) == 0) = false := by simpa using her
    have he2 : ((er : Int) != 0) = true := by simpa using her
    have HP := hid (show pCount m s (t, 0) = (0, (t, er)) by unfold pCount; rw [scan_no hsc her])
    clear hsc her
    go_enter Tryz.func121, Tryz.ntmps121
    go_wp2_with fail
    go_quiet ((go_at_call 131; exact Calls.quiet_of_same (hA.out _)))
    go_wp2_with fail
    refine Calls.mono (rfail_any s t 0 er pl b _ (by exact HB.out)) ?_
    rintro x w1 ⟨rfl, hb1, ho1⟩
    go_wp2_with fail
    go_ret
    rw [HP.out]
    exact ⟨rfl, ⟨_, hb1, ht⟩, ((Only.refl b w).drewN _).trans ho1⟩
  obtain rfl : er = 0 := by omega
  clear her
  obtain ⟨g1, g2, g3, g4⟩ := scan0_one _ n z hsc
  rw [List.length_drop] at g3
  have hA := hid (fun W => by have := at_same s t ht hs W; rw [atOf_ok hsc] at this; exact this)
  unfold top64 at g1
  clear g4
  by_cases hmn : m < n
  · have HP := hid (show pCount m s (t, 0) = (0, (t, 2)) by unfold pCount; rw [scan_long hsc hmn])
    clear hsc
    go_enter Tryz.func121, Tryz.ntmps121
    go_wp2_with fail
    go_quiet ((go_at_call 131; exact Calls.quiet_of_same (hA.out _)))
    go_wp2_with fail
    refine Calls.mono (rfail_any s t 0 2 pl b _ (by exact HB.out)) ?_
    rintro x w1 ⟨rfl, hb1, ho1⟩
    go_wp2_with fail
    go_ret
    rw [HP.out]
    exact ⟨rfl, ⟨_, hb1, ht⟩, ((Only.refl b w).drewN _).trans ho1⟩
  have HP := hid (show pCount m s (t, 0) = (n, (t + z, 0)) by unfold pCount; rw [scan_yes hsc hmn (by simp)])
  clear hsc
  go_enter Tryz.func121, Tryz.ntmps121
  go_wp2_with fail
  go_quiet ((go_at_call 131; exact Calls.quiet_of_same (hA.out _)))
  go_wp2_with fail
  go_ret
  rw [HP.out]
  exact ⟨rfl, ⟨pl, heap_set (show (w.drewN _).heap[b]? = _ from HB.out) 1 (.int .i64 ((t + z : Nat) : Int)), by simp only; omega⟩, ((Only.refl b w).drewN _).set 1 _⟩
set_option maxRecDepth 100000 in
set_option maxHeartbeats 4000000 in
theorem rrText {s : Bytes} {st : Nat × Nat} {b : Nat} {w : World} (m : Nat) (hm : m ≤ 1000000000) (h : RR w b s st) (hs : s.length ≤ 1152921504606846976) :
    Calls Tryz.prog 122 #[.pointer (some ⟨b, 0, none⟩), .int .i64 (m : Int)] w fun x w' => x = .returned (.string (str (pText m s st).1)) ∧ RR w' b s (pText m s st).2 ∧ Only b w w' := by
  have hmw : IntKind.u64.wrap (m : Int) = (m : Int) := by rw [IntKind.wrap_u64]; omega
  obtain ⟨pl, hb, ht⟩ := h
  obtain ⟨t, e⟩ := st
  simp only at hb ht
  have hlt : b < w.heap.size := (Array.getElem?_eq_some_iff.1 hb).1
  have c0 : w.cell? ⟨b, 0, none⟩ = some (.string (str s)) := cell_in hb 0 _ rfl
  have c1 : w.cell? ⟨b, 1, none⟩ = some (.int .i64 (t : Int)) := cell_in hb 1 _ rfl
  have c2 : w.cell? ⟨b, 2, none⟩ = some (.int .i64 (e : Int)) := cell_in hb 2 _ rfl
  have f1 := free_in hb 1
  have hz : (str s).size = s.length := str_size _
  have HB := hid hb
  clear hb
  by_cases he : e ≠ 0
  · have he1 : ((e : Int) == 0) = false := by simpa using he
    have he2 : ((e : Int) != 0) = true := by simpa using he
    have HP := hid (show pText m s (t, e) = ([], (t, e)) by unfold pText rtext; rw [bnd_no he]; rfl)
    clear he
    go_enter Tryz.func122, Tryz.ntmps122
    go_wp2_with fail
    go_ret
    rw [HP.out]
    exact ⟨rfl, ⟨pl, HB.out, ht⟩, Only.refl _ _⟩
  obtain rfl : e = 0 := by omega
  clear he
  rcases hsc : scan0 (s.drop t) with ⟨n, z, er⟩
  by_cases her : er ≠ 0
  · have hA := hid (fun W => by have := at_same s t ht hs W; rw [atOf_err hsc her] at this; exact this)
    have he1 : ((er : Int) == 0) = false := by simpa using her
    have he2 : ((er : Int) != 0) = true := by simpa using her
    have HP := hid (show pText m s (t, 0) = ([], (t, er)) by unfold pText rtext; rw [scan_no hsc her]; rfl)
    clear hsc her
    go_enter Tryz.func122, Tryz.ntmps122
    go_wp2_with fail
    go_quiet ((go_at_call 131; exact Calls.quiet_of_same (hA.out _)))
    go_wp2_with fail
    refine Calls.mono (rfail_any s t 0 er pl b _ (by exact HB.out)) ?_
    rintro x w1 ⟨rfl, hb1, ho1⟩
    go_wp2_with fail
    go_ret
    rw [HP.out]
    exact ⟨rfl, ⟨_, hb1, ht⟩, ((Only.refl b w).drewN _).trans ho1⟩
  obtain rfl : er = 0 := by omega
  clear her
  obtain ⟨g1, g2, g3, g4⟩ := scan0_one _ n z hsc
  rw [List.length_drop] at g3
  have hA := hid (fun W => by have := at_same s t ht hs W; rw [atOf_ok hsc] at this; exact this)
  unfold top64 at g1
  clear g4
  by_cases hmn : m < n
  · have HP := hid (show pText m s (t, 0) = ([], (t, 2)) by unfold pText rtext; rw [scan_long hsc hmn]; rfl)
    clear hsc
    go_enter Tryz.func122, Tryz.ntmps122
    go_wp2_with fail
    go_quiet ((go_at_call 131; exact Calls.quiet_of_same (hA.out _)))
    go_wp2_with fail
    refine Calls.mono (rfail_any s t 0 2 pl b _ (by exact HB.out)) ?_
    rintro x w1 ⟨rfl, hb1, ho1⟩
    go_wp2_with fail
    go_ret
    rw [HP.out]
    exact ⟨rfl, ⟨_, hb1, ht⟩, ((Only.refl b w).drewN _).trans ho1⟩
  have hzt : t + z ≤ s.length := by omega
  have hS1 := hid (fun (h : s.length - (t + z) < n) => show pText m s (t, 0) = ([], (t, 3)) by unfold pText rtext; rw [scan_short hsc hmn (by omega)]; rfl)
  have hS2 := hid (fun (h : ¬ s.length - (t + z) < n) => show pText m s (t, 0) = ((s.drop (t + z)).take n, (t + z + n, 0)) by unfold pText rtext; rw [scan_yes hsc hmn (fun _ => by omega)]; simp only; rw [if_neg (by omega)])
  clear hsc g3
  generalize hq : t + z = q at *
  clear hq
  by_cases hrn : s.length - q < n
  · have HP := hid (hS1.out hrn)
    have hi1 : (s.length : Int) - (q : Int) < (n : Int) := by omega
    clear hS1 hS2 hrn
    go_enter Tryz.func122, Tryz.ntmps122
    go_wp2_with fail
    go_quiet ((go_at_call 131; exact Calls.quiet_of_same (hA.out _)))
    go_wp2_with fail
    refine Calls.mono (rfail_any s t 0 3 pl b _ (by exact HB.out)) ?_
    rintro x w1 ⟨rfl, hb1, ho1⟩
    go_wp2_with fail
    go_ret
    rw [HP.out]
    exact ⟨rfl, ⟨_, hb1, ht⟩, ((Only.refl b w).drewN _).trans ho1⟩
  have hi1 : (n : Int) ≤ (s.length : Int) - (q : Int) := by omega
  have HP := hid (hS2.out hrn)
  have hx : (str s).extract q (q + n) = str ((s.drop q).take n) := by rw [extract_str, str_data, Nat.add_sub_cancel_left]
  have hq0 : (0 : Int) ≤ (q : Int) := by omega
  clear hS1 hS2 hrn
  go_enter Tryz.func122, Tryz.ntmps122
  go_wp2_with fail
  go_quiet ((go_at_call 131; exact Calls.quiet_of_same (hA.out _)))
  go_wp2_with fail
  go_quiet (fail)
  go_wp2_with fail
  rw [hx]
  go_ret
  rw [HP.out]
  exact ⟨rfl, ⟨pl, heap_set (show (w.drewN _).heap[b]? = _ from HB.out) 1 (.int .i64 ((q + n : Nat) : Int)), by simp only; omega⟩, (((Only.refl b w).drewN _).set 1 _).drewN _⟩
end Go.Proofs.YtmehcogaopackaaGreat
/- The walks of wire's small functions: bit, nums, within; of the reference's num, text, yes. -/
namespace Go.Proofs.YtmehcogaopackaaGreat
open Go.RowKit

def bitN (b : Bool) : Nat := if b then 1 else 0
/-- the slice value v holds the numbers ns -/
def HoldsU (w : World) (v : Value) (ns : List Nat) : Prop :=
  ∃ (a : Option Addr) (cap : Nat), v = .slice a ns.length cap ∧ ns.length * 8 ≤ 140737488355328 ∧ (∀ n ∈ ns, n < top64) ∧ (0 < ns.length → ∃ b off, a = some ⟨b, off, none⟩ ∧ ∀ j (h : j < ns.length), w.cell? ⟨b, off + j, none⟩ = some (.int .u64 (ns[j] : Int)))
/-- the first k of the numbers -/
def flatK (ns : List Nat) (k : Nat) : Bytes := ((ns.take k).map num).flatten
theorem flatK_succ (ns : List Nat) (k : Nat) (h : k < ns.length) : flatK ns (k + 1) = flatK ns k ++ num ns[k] := by
  unfold flatK
  rw [List.take_succ_eq_append_getElem h, flat_snoc]
theorem flatK_all (ns : List Nat) (k : Nat) (h : ns.length ≤ k) : flatK ns k = (ns.map num).flatten := by
  unfold flatK
  rw [List.take_of_length_le h]
theorem flatK_len (ns : List Nat) (k : Nat) : (flatK ns k).length ≤ 10 * ns.length := by
  have h2 := flat_len (ns.take k)
  have h3 : (ns.take k).length ≤ ns.length := by rw [List.length_take]; omega
  unfold flatK
  omega
end Go.Proofs.YtmehcogaopackaaGreat
/- The walks of the two closures of wire.ReadRequest: a range, a flag. -/
namespace Go.Proofs.YtmehcogaopackaaGreat
open Go.RowKit
theorem RS.alloc {w b s st} (h : RS w b s st) (o : Obj) : RS (w.alloc o) b s st := h.below ((Below.refl _ _).alloc (Nat.le_refl _) o)
theorem keepSet {W : World} {c k o : Nat} {v x : Value} (h : W.cell? ⟨c, 0, none⟩ = some x) (hne : c ≠ k) : (W.setCell ⟨k, o, none⟩ v).cell? ⟨c, 0, none⟩ = some x :=
  (World.cell?_of_block (Below.heap_setCell _ _ _ _ hne)).trans h
end Go.Proofs.YtmehcogaopackaaGreat
/- PLAIN: a region that draws its order and holds a chain of calls and one alloc that may come up anywhere among them: walked once, not once for each place of the alloc. -/
namespace Go.Proofs.YtmehcogaopackaaGreat
open Go.RowKit

variable {P : Program} {ops : Array Oper} {Q : Exit → Act → World → Prop} {md : Region.Mode} {S : World → Prop} {σ : Type} {X : σ → World → Prop} {Y : Nat → World → Prop}

/-- operation al makes a variable, whose address goes into slot d; X: what holds beside the chain, Y: what holds of the variable -/
def Floats (P : Program) (ops : Array Oper) (S : World → Prop) (al : Nat) (d : Tmp) (X : σ → World → Prop) (Y : Nat → World → Prop) : Prop :=
  ∃ oa obj, ops[al]? = some oa ∧ oa.guard = none ∧ oa.dst = some d ∧ (∀ (a : Act) W, (execOp a.eval oa).run P W = .ok (.value (.pointer (some ⟨W.heap.size, 0, none⟩))) (W.alloc obj)) ∧
    (∀ st W, X st W → S W) ∧ (∀ st W, X st W → X st (W.alloc obj)) ∧ (∀ st W, X st W → Y W.heap.size (W.alloc obj))
/-- the two ways to stand at a place of the chain: the variable is not made yet, or it is -/
def Fork (P : Program) (md : Region.Mode) (ops : Array Oper) (Q : Exit → Act → World → Prop) (S : World → Prop) (al : Nat) (d : Tmp) (X : World → Prop) (Y : Nat → World → Prop) (fuel : Nat) (listed : Array Bool) (a : Act) : Prop :=
  (∀ W, X W → wpAnyH P md ops Q S (fuel + 1) listed a W) ∧ (∀ W k, X W → Y k W → wpAnyH P md ops Q S fuel (listed.setIfInBounds al true) (a.put (some d) (.pointer (some ⟨k, 0, none⟩))) W)
theorem wpOp_plain {i : Nat} {o : Oper} {K : Act → World → Prop} {a : Act} {w : World} (hi : ops[i]? = some o) (hg : o.guard = none) (h : o.wp P a w K Q) : wpOp P ops Q i K a w := by
  unfold wpOp
  simp only [hi]
  rw [if_pos (by unfold Region.wanted; rw [hg])]
  exact .inl h
theorem wpOp_alloc {al : Nat} {d : Tmp} {st : σ} (F : Floats P ops S al d X Y) {K : Act → World → Prop} {a : Act} {w : World} (hX : X st w)
    (h : ∀ W, S W → X st W → Y w.heap.size W → K (a.put (some d) (.pointer (some ⟨w.heap.size, 0, none⟩))) W) : wpOp P ops Q al K a w := by
  obtain ⟨oa, obj, h1, h2, h3, h4, h5, h6, h7⟩ := F
  refine wpOp_plain h1 h2 ?_
  unfold Oper.wp
  rw [h4, Oper.upon_value, h3]
  exact h _ (h5 _ _ (h6 _ _ hX)) (h6 _ _ hX) (h7 _ _ hX)
/-- the same operation where a slot that it does not look at holds something else -/
theorem wp_put_slot {oc : Oper} {a : Act} {d dc : Tmp} {u : Value} {w : World} {K : Act → World → Prop} (hd : oc.dst = some dc) (hsel : ∀ cs b, oc.op ≠ .select cs b) (hlook : d ∉ oc.looksAt ops) (hne : dc ≠ d)
    (hQ : ∀ c a w, Q (.panic c) a w → Q (.panic c) (a.put (some d) u) w) (h : oc.wp P a w (fun a' w' => K (a'.put (some d) u) w') Q) : oc.wp P (a.put (some d) u) w K Q := by
  have hc : ∀ (a : Act) x, (a.put (some d) u).put oc.dst x = (a.put oc.dst x).put (some d) u := fun a x => by
    rw [hd]
    exact Act.put_comm a (x := some d) (y := some dc) u x (fun d' hd' => by cases hd'; exact fun e => hne (by cases e; rfl))
  unfold Oper.wp at *
  rw [execOp_put oc hsel a (some d) u (fun d' hd' => by cases hd'; exact hlook)]
  generalize (execOp a.eval oc).run P w = r at *
  cases r with
  | ok n w' =>
    cases n <;> simp only [Oper.upon] at h ⊢
    case value v => rw [hc]; exact h
    case skip => rw [hc]; exact h
    case defer dd =>
      have := hc { a with defers := dd :: a.defers } undef
      rw [← Act.put_defers] at this
      rw [this]
      exact h
    case enter f args =>
      refine Calls.mono h fun e w'' he => ?_
      cases e with
      | returned v =>
        show K ((a.put (some d) u).put oc.dst v) w''
        rw [hc]
        exact he
      | panicked c => exact hQ _ _ _ he
      | outgrown => exact he
    case row row args => exact Rows.mono h fun v w'' he => by rw [hc]; exact he
  | halt x w' =>
    cases x <;> simp only [Oper.upon] at h ⊢
    case panic v => exact hQ _ _ _ h
theorem Fork.step {al ci : Nat} {d dc : Tmp} {oc : Oper} {st st' : σ} {fuel : Nat} {listed : Array Bool} {a : Act} {rs : List Nat} {v : Value} (F : Floats P ops S al d X Y)
    (hc : ops[ci]? = some oc) (hg : oc.guard = none) (hd : oc.dst = some dc) (hsel : Region.noSelect ops = true) (hlook : (oc.looksAt ops).contains d = false) (hne : (dc == d) = false) (hci : (ci == al) = false)
    (hr : Region.ready md ops listed = rs) (hrs : (rs == [ci, al] || rs == [al, ci]) = true) (hr' : Region.ready md ops (listed.setIfInBounds al true) = [ci])
    (hQ : ∀ c a u w, Q (.panic c) a w → Q (.panic c) (a.put (some d) u) w)
    (hwp : ∀ W K, X st W → (∀ W', X st' W' → (∀ k, Y k W → Y k W') → K (a.put (some dc) v) W') → oc.wp P a W K Q)
    (h : Fork P md ops Q S al d (X st') Y fuel (listed.setIfInBounds ci true) (a.put (some dc) v)) : Fork P md ops Q S al d (X st) Y (fuel + 1) listed a := by
  have hne' : dc ≠ d := by simpa using hne
  have hci' : ci ≠ al := by simpa using hci
  have hlook' : d ∉ oc.looksAt ops := by simpa using hlook
  have hset : (listed.setIfInBounds al true).setIfInBounds ci true = (listed.setIfInBounds ci true).setIfInBounds al true := Array.setIfInBounds_comm _ _ (Ne.symm hci')
  have hSX : ∀ st W, X st W → S W := by obtain ⟨_, _, _, _, _, _, h5, _, _⟩ := F; exact h5
  have second : ∀ W k, X st W → Y k W → wpAnyH P md ops Q S (fuel + 1) (listed.setIfInBounds al true) (a.put (some d) (.pointer (some ⟨k, 0, none⟩))) W := by
    intro W k hX hY
    refine wpAnyH_all hr' (by simp) (fun i hi => ?_)
    obtain rfl : i = ci := by simpa using hi
    refine wpOp_plain hc hg (wp_put_slot hd (fun cs b => Region.noSelect_spec hsel _ _ cs b hc) hlook' hne' (fun c a w => hQ c a _ w) (hwp W _ hX (fun W' hX' hY' => ?_)))
    refine ⟨hSX _ _ hX', ?_⟩
    rw [hset]
    exact h.2 W' k hX' (hY' k hY)
  refine ⟨fun W hX => ?_, second⟩
  have hrs' : rs = [ci, al] ∨ rs = [al, ci] := by simpa using hrs
  refine wpAnyH_all hr (by rcases hrs' with rfl | rfl <;> simp) (fun i hi => ?_)
  have hi' : i = ci ∨ i = al := by rcases hrs' with rfl | rfl <;> simp at hi <;> omega
  rcases hi' with rfl | rfl
  · exact wpOp_plain hc hg (hwp W _ hX (fun W' hX' _ => ⟨hSX _ _ hX', h.1 W' hX'⟩))
  · exact wpOp_alloc F hX (fun W' hS hX' hY' => ⟨hS, second W' _ hX' hY'⟩)
theorem Fork.base {al : Nat} {d : Tmp} {st : σ} {fuel : Nat} {listed : Array Bool} {a : Act} (F : Floats P ops S al d X Y) (hr : Region.ready md ops listed = [al])
    (h : ∀ W k, X st W → Y k W → wpAnyH P md ops Q S fuel (listed.setIfInBounds al true) (a.put (some d) (.pointer (some ⟨k, 0, none⟩))) W) : Fork P md ops Q S al d (X st) Y fuel listed a := by
  refine ⟨fun W hX => ?_, h⟩
  refine wpAnyH_all hr (by simp) (fun i hi => ?_)
  obtain rfl : i = al := by simpa using hi
  exact wpOp_alloc F hX (fun W' hS hX' hY' => ⟨hS, h W' _ hX' hY'⟩)
/-- the one operation that is left but for those that wait for it -/
theorem wpAnyH_one {i : Nat} {o : Oper} {fuel : Nat} {listed : Array Bool} {a : Act} {w : World} (hi : ops[i]? = some o) (hg : o.guard = none) (hr : Region.ready md ops listed = [i])
    (h : o.wp P a w (fun a' w' => S w' ∧ wpAnyH P md ops Q S fuel (listed.setIfInBounds i true) a' w') Q) : wpAnyH P md ops Q S (fuel + 1) listed a w := by
  refine wpAnyH_all hr (by simp) (fun j hj => ?_)
  obtain rfl : j = i := by simpa using hj
  exact wpOp_plain hi hg h
/-- a load (or whatever yields in every world that meets S), taken first -/
theorem wpAnyH_takeD {i : Nat} {oi : Oper} {d : Tmp} {v : Value} {fuel : Nat} {listed : Array Bool} {a : Act} {w : World} (hi : ops[i]? = some oi) (hd : oi.dst = some d) (hg : oi.guard = none)
    (hs : Region.noSelect ops = true) (hf : Region.free md ops listed i = true) (hr : (Region.ready md ops listed).contains i = true)
    (hQ : ∀ c a u w, Q (.panic c) (a.put (some d) u) w → Q (.panic c) a w) (hy : ∀ w, S w → (execOp a.eval oi).run P w = .ok (.value v) w) (hS : S w)
    (h : wpAnyH P md ops Q S fuel (listed.setIfInBounds i true) (a.put (some d) v) w) : wpAnyH P md ops Q S (fuel + 1) listed a w :=
  wpAnyH_take hi hs hf hr (fun c a w h => hQ c a v w (by rw [hd] at h; exact h)) (Or.inl ⟨by unfold Region.wanted; rw [hg], hy⟩) hS (by rw [hd]; exact h)
/-- what yields in every world that meets S, taken first while the alloc may come up -/
theorem Fork.take {al i : Nat} {d di : Tmp} {oi : Oper} {st : σ} {v : Value} {fuel : Nat} {listed : Array Bool} {a : Act} (hXS : ∀ W, X st W → S W) (hi : ops[i]? = some oi) (hg : oi.guard = none) (hd : oi.dst = some di)
    (hs : Region.noSelect ops = true) (hlook : (oi.looksAt ops).contains d = false) (hne : (di == d) = false) (hci : (i == al) = false) (hf : Region.free md ops listed i = true) (hr : (Region.ready md ops listed).contains i = true)
    (hf' : Region.free md ops (listed.setIfInBounds al true) i = true) (hr' : (Region.ready md ops (listed.setIfInBounds al true)).contains i = true)
    (hQ : ∀ c a d u w, Q (.panic c) (a.put (some d) u) w → Q (.panic c) a w) (hy : ∀ w, S w → (execOp a.eval oi).run P w = .ok (.value v) w)
    (h : Fork P md ops Q S al d (X st) Y fuel (listed.setIfInBounds i true) (a.put (some di) v)) : Fork P md ops Q S al d (X st) Y (fuel + 1) listed a := by
  have hne' : di ≠ d := by simpa using hne
  have hci' : i ≠ al := by simpa using hci
  have hlook' : d ∉ oi.looksAt ops := by simpa using hlook
  refine ⟨fun W hX => wpAnyH_takeD hi hd hg hs hf hr (fun c a u w => hQ c a _ u w) hy (hXS W hX) (h.1 W hX), fun W k hX hY => ?_⟩
  refine wpAnyH_takeD hi hd hg hs hf' hr' (fun c a u w => hQ c a _ u w) (v := v) (fun w hSw => ?_) (hXS W hX) ?_
  · rw [execOp_put oi (fun cs b => Region.noSelect_spec hs _ _ cs b hi) a (some d) _ (fun d' hd' => by cases hd'; exact hlook')]
    exact hy w hSw
  · have := h.2 W k hX hY
    rw [Array.setIfInBounds_comm _ _ hci', Act.put_comm a (x := some di) (y := some d) v _ (fun d' hd' => by cases hd'; exact fun e => hne' (by cases e; rfl))] at this
    exact this
end Go.Proofs.YtmehcogaopackaaGreat
/- A chain of reads beside a variable of many cells: the state, the reads, the stores into the variable. -/
namespace Go.Proofs.YtmehcogaopackaaGreat
open Go.RowKit

/-- the state along the chain of reads: the reader, and that the rest is as it was in w2 -/
def XR (s : Bytes) (b : Nat) (w2 : World) (st : Nat × Nat) (W : World) : Prop := RS W b s st ∧ Only b w2 W
/-- the variable that is made there -/
def YR (b : Nat) (w2 : World) (zs : Array Value) (t : TypeId) (k : Nat) (W : World) : Prop := W.heap[k]? = some (.cells zs t) ∧ w2.heap.size ≤ k ∧ b < w2.heap.size ∧ k < W.heap.size
theorem YR.kept {b k : Nat} {w2 W W' : World} {zs : Array Value} {t : TypeId} (h : YR b w2 zs t k W) (ho : Only b W W') : YR b w2 zs t k W' :=
  ⟨(ho.block k h.2.2.2 (fun e => by cases e; have := h.2.1; have := h.2.2.1; omega)).trans h.1, h.2.1, h.2.2.1, Nat.lt_of_lt_of_le h.2.2.2 ho.size⟩
theorem xyNum {s : Bytes} {st st' : Nat × Nat} {n b : Nat} {w2 : World} {zs : Array Value} {t : TypeId} (hs : s.length ≤ 1152921504606846976) (E : pNum s st = (n, st')) : ∀ W, XR s b w2 st W →
    Calls Tryz.prog 113 #[.pointer (some ⟨b, 0, none⟩)] W fun x W' => x = .returned (.int .u64 (n : Int)) ∧ XR s b w2 st' W' ∧ (∀ k, YR b w2 zs t k W → YR b w2 zs t k W') :=
  fun _ hX => (rsNumE E hX.1 hs).mono fun _ _ ⟨e, hr, ho⟩ => ⟨e, ⟨hr, hX.2.trans ho⟩, fun _ hY => hY.kept ho⟩
theorem xyCount {m : Nat} (hm : m ≤ maxLen) {s : Bytes} {st st' : Nat × Nat} {n b : Nat} {w2 : World} {zs : Array Value} {t : TypeId} (hs : s.length ≤ 1152921504606846976) (E : pCount m s st = (n, st')) : ∀ W, XR s b w2 st W →
    Calls Tryz.prog 87 #[.pointer (some ⟨b, 0, none⟩), .int .i64 (m : Int)] W fun x W' => x = .returned (.int .i64 (n : Int)) ∧ XR s b w2 st' W' ∧ (∀ k, YR b w2 zs t k W → YR b w2 zs t k W') :=
  fun _ hX => (rsCountE hm E hX.1 hs).mono fun _ _ ⟨e, hr, ho⟩ => ⟨e, ⟨hr, hX.2.trans ho⟩, fun _ hY => hY.kept ho⟩
theorem xyText {m : Nat} (hm : m ≤ maxLen) {s x : Bytes} {st st' : Nat × Nat} {b : Nat} {w2 : World} {zs : Array Value} {t : TypeId} (hs : s.length ≤ 1152921504606846976) (E : pText m s st = (x, st')) : ∀ W, XR s b w2 st W →
    Calls Tryz.prog 114 #[.pointer (some ⟨b, 0, none⟩), .int .i64 (m : Int)] W fun e W' => e = .returned (.string (str x)) ∧ XR s b w2 st' W' ∧ (∀ k, YR b w2 zs t k W → YR b w2 zs t k W') :=
  fun _ hX => (rsTextE hm E hX.1 hs).mono fun _ _ ⟨e, hr, ho⟩ => ⟨e, ⟨hr, hX.2.trans ho⟩, fun _ hY => hY.kept ho⟩
theorem Fork.start {P : Program} {ops : Array Oper} {Q : Exit → Act → World → Prop} {md : Region.Mode} {S : World → Prop} {X : World → Prop} {Y : Nat → World → Prop} {al : Nat} {d : Tmp} {fuel : Nat} {listed : Array Bool} {a : Act} {W : World}
    (h : Fork P md ops Q S al d X Y fuel listed a) (hX : X W) : wpAnyH P md ops Q S (fuel + 1) listed a W := h.1 W hX

/-- the reader in block b, the variable in block k, and that the rest is as it was in w0 -/
def JR (s : Bytes) (b k : Nat) (t : TypeId) (w0 : World) (cs : Array Value) (st : Nat × Nat) (W : World) : Prop := RS W b s st ∧ W.heap[k]? = some (.cells cs t) ∧ Kept2 b k w0 W ∧ b ≠ k
theorem JR.rs {s b k t w0 cs st W} (h : JR s b k t w0 cs st W) : RS W b s st := h.1
theorem JR.blk {s b k t w0 cs st W} (h : JR s b k t w0 cs st W) : W.heap[k]? = some (.cells cs t) := h.2.1
theorem JR.kept {s b k t w0 cs st W} (h : JR s b k t w0 cs st W) : Kept2 b k w0 W := h.2.2.1
theorem JR.lt {s b k t w0 cs st W} (h : JR s b k t w0 cs st W) : k < W.heap.size := (Array.getElem?_eq_some_iff.1 h.2.1).1
theorem JR.at {s b k t w0 cs st W} (h : JR s b k t w0 cs st W) (o : Nat) (v : Value) (hv : cs[o]? = some v) : W.cell? ⟨k, o, none⟩ = some v := cell_in h.2.1 o v hv
theorem JR.free {s b k t w0 cs st W} (h : JR s b k t w0 cs st W) (o : Nat) : W.frozen? ⟨k, o, none⟩ = false := free_in h.2.1 o
theorem JR.other {s b k t w0 cs st W} (h : JR s b k t w0 cs st W) {c : Nat} {v : Value} (hc : w0.cell? ⟨c, 0, none⟩ = some v) (h1 : c ≠ b) (h2 : c ≠ k) : W.cell? ⟨c, 0, none⟩ = some v :=
  (World.cell?_of_block (h.2.2.1.2.2.2.2 c (World.block_lt_of_cell? _ _ hc) h1 h2)).trans hc
theorem JR.only {s b k t w0 cs st st' W W'} (h : JR s b k t w0 cs st W) (ho : Only b W W') (hr : RS W' b s st') : JR s b k t w0 cs st' W' :=
  ⟨hr, (ho.block k h.lt (fun e => h.2.2.2 (by cases e; rfl))).trans h.2.1, h.2.2.1.trans (.only ho), h.2.2.2⟩
theorem JR.below {s b k t w0 cs st W W'} (h : JR s b k t w0 cs st W) (ho : Below W.heap.size W W') : JR s b k t w0 cs st W' := h.only (.of_below ho) (h.1.below ho)
theorem JR.set {s b k t w0 cs st W} (h : JR s b k t w0 cs st W) (o : Nat) (v : Value) : JR s b k t w0 (cs.setIfInBounds o v) st (W.setCell ⟨k, o, none⟩ v) := by
  refine ⟨⟨?_, h.1.2⟩, heap_set h.2.1 o v, h.2.2.1.set o v, h.2.2.2⟩
  have := h.1.1
  unfold RD at *
  rw [Below.heap_setCell _ _ _ _ h.2.2.2]
  exact this
theorem jrNum {s : Bytes} {b k : Nat} {t : TypeId} {w0 W : World} {cs : Array Value} {st st' : Nat × Nat} {n : Nat} (hs : s.length ≤ 1152921504606846976) (E : pNum s st = (n, st')) (h : JR s b k t w0 cs st W) :
    Calls Tryz.prog 113 #[.pointer (some ⟨b, 0, none⟩)] W fun x W' => x = .returned (.int .u64 (n : Int)) ∧ JR s b k t w0 cs st' W' ∧ Only b W W' :=
  (rsNumE E h.1 hs).mono fun _ _ ⟨e, hr, ho⟩ => ⟨e, h.only ho hr, ho⟩
theorem jrCount {m : Nat} (hm : m ≤ maxLen) {s : Bytes} {b k : Nat} {t : TypeId} {w0 W : World} {cs : Array Value} {st st' : Nat × Nat} {n : Nat} (hs : s.length ≤ 1152921504606846976) (E : pCount m s st = (n, st')) (h : JR s b k t w0 cs st W) :
    Calls Tryz.prog 87 #[.pointer (some ⟨b, 0, none⟩), .int .i64 (m : Int)] W fun x W' => x = .returned (.int .i64 (n : Int)) ∧ JR s b k t w0 cs st' W' ∧ Only b W W' :=
  (rsCountE hm E h.1 hs).mono fun _ _ ⟨e, hr, ho⟩ => ⟨e, h.only ho hr, ho⟩
theorem jrText {m : Nat} (hm : m ≤ maxLen) {s x : Bytes} {b k : Nat} {t : TypeId} {w0 W : World} {cs : Array Value} {st st' : Nat × Nat} (hs : s.length ≤ 1152921504606846976) (E : pText m s st = (x, st')) (h : JR s b k t w0 cs st W) :
    Calls Tryz.prog 114 #[.pointer (some ⟨b, 0, none⟩), .int .i64 (m : Int)] W fun e W' => e = .returned (.string (str x)) ∧ JR s b k t w0 cs st' W' ∧ Only b W W' :=
  (rsTextE hm E h.1 hs).mono fun _ _ ⟨e, hr, ho⟩ => ⟨e, h.only ho hr, ho⟩
theorem Cells.kept2D {D : List Nat} {b k : Nat} {w w' : World} {v : Value} {n : Nat} {xs : List Value} (h : Cells D w v n xs) (hb : Kept2 b k w w') (hD : b ∈ D ∧ k ∈ D) : Cells D w' v n xs :=
  h.kept fun j hj hd => hb.2.2.2.2 j hj (fun e => hd (by rw [e]; exact hD.1)) (fun e => hd (by rw [e]; exact hD.2))
theorem Cells.rowD {D : List Nat} {k : Nat} {w : World} {v : Value} {n : Nat} {xs : List Value} (h : Cells D w v n xs) (hD : k ∈ D) (cs : Array Value) : Cells D (w.setRow k cs) v n xs :=
  h.kept fun j _ hd => setRow_other w k j cs (fun e => hd (by rw [e]; exact hD))
theorem below_row {B k : Nat} {w w' : World} (h : Below B w w') (hk : B ≤ k) (cs : Array Value) : Below B w (w'.setRow k cs) :=
  ⟨h.os, h.tape, h.output, by have := h.size; simpa [World.setRow] using this, fun j hj => (setRow_other w' k j cs (by omega)).trans (h.block j hj)⟩
end Go.Proofs.YtmehcogaopackaaGreat
