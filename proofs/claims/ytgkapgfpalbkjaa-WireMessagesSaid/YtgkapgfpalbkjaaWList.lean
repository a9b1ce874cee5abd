/-
  The walks of wire.list at its four instances, and of what writes one element.
-/
import Derived.Test.YtgkapgfpalbkjaaWireP
import Derived.Test.YtgkapgfpalbkjaaWSmall
import Derived.Deep.RegionHeld3
namespace Go.Proofs.Ytgkapgfpalbkjaa
open Go.RowKit
set_option linter.unusedVariables false
set_option linter.unusedSimpArgs false
def unVals (ns : List Nat) : List Value := ns.map fun (n : Nat) => Value.int .u64 (n : Int)
/-- numbers that were put into a block of their own -/
theorem HoldsU.of_block {W : World} {k : Nat} {t : TypeId} (ns : List Nat) (cs : Array Value) (h : W.heap[k]? = some (.cells cs t)) (hc : cs.toList = unVals ns) (hn : ∀ n ∈ ns, n < top64) (m : Nat) (hm : m = ns.length) (hl : ns.length ≤ 1000) : HoldsU W (.slice (some ⟨k, 0, none⟩) m m) ns := by
  subst hm
  refine ⟨_, _, rfl, by omega, hn, fun _ => ⟨k, 0, rfl, fun j hj => ?_⟩⟩
  refine cell_in h _ _ ?_
  rw [Nat.zero_add, ← Array.getElem?_toList, hc]
  simp [unVals, hj]
def rgBytes (r : Nat × Nat) : Bytes := num r.1 ++ num r.2
def enBytes (e : En) : Bytes := num e.term ++ num e.kind.toNat ++ text e.data
def cfBytes (n : Int) : Bytes := num n.toNat
theorem text_len (l : Bytes) : (text l).length ≤ 10 + l.length := by
  have := num_len l.length
  unfold text
  rw [List.length_append]
  omega
/-- each element written behind the other, the first k -/
def flatOf {α : Type} (f : α → Bytes) (l : List α) (k : Nat) : Bytes := ((l.take k).map f).flatten
theorem flatOf_succ {α : Type} (f : α → Bytes) (l : List α) (k : Nat) (h : k < l.length) : flatOf f l (k + 1) = flatOf f l k ++ f l[k] := by
  unfold flatOf
  rw [List.take_succ_eq_append_getElem h, List.map_append, List.flatten_append]
  simp
theorem flatOf_all {α : Type} (f : α → Bytes) (l : List α) (k : Nat) (h : l.length ≤ k) : flatOf f l k = (l.map f).flatten := by
  unfold flatOf
  rw [List.take_of_length_le h]
theorem flat_le {α : Type} (f : α → Bytes) (B : Nat) : ∀ (l : List α), (∀ x ∈ l, (f x).length ≤ B) → ((l.map f).flatten).length ≤ B * l.length
  | [], _ => by simp
  | a :: l, h => by
    have h1 := flat_le f B l (fun x hx => h x (List.mem_cons_of_mem _ hx))
    have h2 := h a (List.mem_cons_self ..)
    simp only [List.map_cons, List.flatten_cons, List.length_append, List.length_cons, Nat.mul_add, Nat.mul_one]
    omega
theorem flatOf_le {α : Type} (f : α → Bytes) (B : Nat) (l : List α) (h : ∀ x ∈ l, (f x).length ≤ B) (k : Nat) : (flatOf f l k).length ≤ B * l.length := by
  refine Nat.le_trans (flat_le f B (l.take k) (fun x hx => h x (List.mem_of_mem_take hx))) ?_
  exact Nat.mul_le_mul_left _ (by rw [List.length_take]; omega)
def listB {α : Type} (f : α → Bytes) (l : List α) : Bytes := num l.length ++ (l.map f).flatten
set_option maxHeartbeats 1000000 in
theorem rgOne_any (r : Nat × Nat) (h1 : r.1 < top64) (h2 : r.2 < top64) (w : World) :
    Calls Try.prog 26 #[.agg #[.int .u64 r.1, .int .u64 r.2]] w fun e w' => e = .returned (.string (str (rgBytes r))) ∧ Below w.heap.size w w' := by
  obtain ⟨x, y⟩ := r
  have HX := hid (show rgBytes (x, y) = (([x, y] : List Nat).map num).flatten by simp [rgBytes])
  have HT := hid (show ∀ n ∈ ([x, y] : List Nat), n < top64 by intro n hn; simp at hn; rcases hn with rfl | rfl; exact h1; exact h2)
  simp only at h1 h2 ⊢
  clear h1 h2
  go_enter Try.func26, Try.ntmps26
  go_wp2_with fail
  have hb := heap_alloc_new (w.alloc (.cells #[.int .u64 x, .int .u64 y] 65)) (.cells #[.int .u64 x, .int .u64 y] 22)
  rw [World.size_alloc] at hb
  refine Calls.mono (wnums_any [x, y] _ _ (HoldsU.of_block [x, y] _ hb rfl HT.out 2 rfl (by simp))) ?_
  clear hb
  rintro e w1 ⟨rfl, hb1⟩
  generalize (List.map num [x, y]).flatten = Z at *
  go_wp2_with fail
  go_ret
  rw [HX.out]
  exact ⟨rfl, (((Below.refl _ _).alloc (Nat.le_refl _) _).alloc (by simp) _).trans (hb1.mono (by simp; omega))⟩
set_option maxHeartbeats 1000000 in
theorem cfOne_any (n : Nat) (hn : n < top64) (w : World) :
    Calls Try.prog 52 #[.int .i64 (n : Int)] w fun e w' => e = .returned (.string (str (num n))) ∧ Below w.heap.size w w' := by
  have hn' := hn
  unfold top64 at hn'
  go_enter Try.func52, Try.ntmps52
  go_wp2_with fail
  refine Calls.mono (num_any n hn _) ?_
  rintro e w1 ⟨rfl, hb1⟩
  go_wp2_with fail
  go_ret
  exact ⟨rfl, hb1⟩
theorem blk_alloc {W : World} {k : Nat} {o : Obj} (h : W.heap[k]? = some o) (o' : Obj) : (W.alloc o').heap[k]? = some o := (heap_alloc_old _ _ (Array.getElem?_eq_some_iff.1 h).1).trans h
theorem blk_below {W W' : World} {k : Nat} {o : Obj} (h : W.heap[k]? = some o) (hb : Below W.heap.size W W') : W'.heap[k]? = some o := (hb.block k (Array.getElem?_eq_some_iff.1 h).1).trans h
set_option maxRecDepth 100000 in
set_option maxHeartbeats 2000000 in
theorem enOne_any (x : En) (h1 : x.term < top64) (h2 : 0 ≤ x.kind) (h3 : x.kind < 1000) (h4 : x.data.length ≤ 1000000) (w : World) :
    Calls Try.prog 50 #[.agg #[.int .u64 (x.term : Nat), .int .i64 x.kind, .string (str x.data)]] w fun e w' => e = .returned (.string (str (enBytes x))) ∧ Below w.heap.size w w' := by
  obtain ⟨t, kd, dt⟩ := x
  simp only at h1 h2 h3 h4 ⊢
  obtain ⟨kn, rfl⟩ := Int.eq_ofNat_of_zero_le h2
  have HX := hid (show str (([t, kn] : List Nat).map num).flatten ++ str (text dt) = str (enBytes ⟨t, (kn : Int), dt⟩) by rw [str_append]; simp [enBytes])
  have HT := hid (show ∀ n ∈ ([t, kn] : List Nat), n < top64 by intro n hn; simp at hn; unfold top64 at *; rcases hn with rfl | rfl <;> omega)
  have s1 : (str (([t, kn] : List Nat).map num).flatten).size = ((([t, kn] : List Nat).map num).flatten).length := str_size _
  have s2 : (str (text dt)).size = (text dt).length := str_size _
  have s3 := text_len dt
  have s4 : ((([t, kn] : List Nat).map num).flatten).length ≤ 20 := Nat.le_trans (flat_len [t, kn]) (by simp)
  have hsum : ¬ (9223372036854775807 < ((([t, kn] : List Nat).map num).flatten).length + (text dt).length) := by omega
  have hbl := heap_alloc_new w (.cells #[.int .u64 t, .int .i64 (kn : Int), .string (str dt)] 58)
  have hB0 : Below w.heap.size w (w.alloc (.cells #[.int .u64 t, .int .i64 (kn : Int), .string (str dt)] 58)) := (Below.refl _ _).alloc (Nat.le_refl _) _
  go_enter Try.func50, Try.ntmps50
  go_wp2_with fail
  generalize w.alloc (.cells #[.int .u64 t, .int .i64 (kn : Int), .string (str dt)] 58) = w0 at *
  have HB0 := hid hB0
  clear hB0
  generalize w.heap.size = k at hbl ⊢
  have HK : Hid (w0.drew.heap[k]? = some (.cells #[.int .u64 t, .int .i64 (kn : Int), .string (str dt)] 58)) := hbl
  clear hbl
  have CO : ∀ W : World, W.heap[k]? = some (.cells #[.int .u64 t, .int .i64 (kn : Int), .string (str dt)] 58) → W.cell? ⟨k, 0, none⟩ = some (.int .u64 t) ∧ W.cell? ⟨k, 1, none⟩ = some (.int .i64 (kn : Int)) ∧ W.cell? ⟨k, 2, none⟩ = some (.string (str dt)) := fun W h => ⟨cell_in h 0 _ rfl, cell_in h 1 _ rfl, cell_in h 2 _ rfl⟩
  have HCO := hid CO
  have hwr : IntKind.u64.wrap (kn : Int) = (kn : Int) := by rw [IntKind.wrap_u64]; omega
  clear CO
  go_region_held3 (fun W => W.cell? ⟨k, 0, none⟩ = some (.int .u64 t) ∧ W.cell? ⟨k, 1, none⟩ = some (.int .i64 (kn : Int)) ∧ W.cell? ⟨k, 2, none⟩ = some (.string (str dt))) (first | exact HCO.out _ HK.out | exact HCO.out _ (blk_alloc HK.out _) | exact HCO.out _ HK1.out | exact HCO.out _ HK2.out)
    (first
    | (go_at_call 22; refine Calls.mono (wnums_any [t, kn] _ _ (HoldsU.of_block [t, kn] _ (by exact heap_alloc_new w0 _) rfl HT.out 2 rfl (by simp))) ?_; rintro e w1 ⟨rfl, hb1⟩; generalize (List.map num [t, kn]).flatten = Z at *; have HK1 := hid (blk_below (blk_alloc HK.out _) hb1); have HB1 := hid hb1; clear hb1)
    | (go_at_call 23; refine Calls.mono (text_any dt (by omega) _) ?_; rintro e w2 ⟨rfl, hb2⟩; have HK2 := hid (blk_below HK1.out hb2); have HB2 := hid hb2; clear hb2))
  go_wp2_with fail
  go_ret
  rw [HX.out]
  exact ⟨rfl, (((HB0.out.drew).alloc (HB0.out.size) _).trans (HB1.out.mono (by have := HB0.out.size; simp; omega))).trans (HB2.out.mono (by have := HB0.out.size; have := HB1.out.size; simp at this; omega))⟩
theorem cfOne_int (n : Int) (h0 : 0 ≤ n) (h1 : n < 1000) (w : World) :
    Calls Try.prog 52 #[.int .i64 n] w fun e w' => e = .returned (.string (str (cfBytes n))) ∧ Below w.heap.size w w' := by
  obtain ⟨m, rfl⟩ := Int.eq_ofNat_of_zero_le h0
  exact cfOne_any m (by unfold top64; omega) w
def okRg (r : Nat × Nat) : Prop := r.1 < top64 ∧ r.2 < top64
def okTx (b : Bytes) : Prop := b.length ≤ 1000000
def okEn (e : En) : Prop := e.term < top64 ∧ 0 ≤ e.kind ∧ e.kind < 1000 ∧ e.data.length ≤ 1000000
def okCf (n : Int) : Prop := 0 ≤ n ∧ n < 1000
theorem rgBytes_le (r : Nat × Nat) (h : okRg r) : (rgBytes r).length ≤ 1000100 := by
  have := num_len r.1; have := num_len r.2
  unfold rgBytes; rw [List.length_append]; omega
theorem text_le (b : Bytes) (h : okTx b) : (text b).length ≤ 1000100 := by
  have := text_len b; have := h; unfold okTx at this; omega
theorem enBytes_le (e : En) (h : okEn e) : (enBytes e).length ≤ 1000100 := by
  have := num_len e.term; have := num_len e.kind.toNat; have := text_len e.data; have := h.2.2.2
  unfold enBytes; rw [List.length_append, List.length_append]; omega
theorem cfBytes_le (n : Int) (h : okCf n) : (cfBytes n).length ≤ 1000100 := by
  have := num_len n.toNat
  unfold cfBytes; omega

set_option maxRecDepth 100000 in
set_option maxHeartbeats 2000000 in
theorem listRanges_any (l : List (Nat × Nat)) (v : Value) (w : World) (D : List Nat) (hv : Cells D w v l.length (rgVals l)) (hn : l.length ≤ 1000) (hok : ∀ x ∈ l, okRg x) :
    Calls Try.prog 25 #[v, .func (.func 26) #[] #[]] w fun e w' => e = .returned (.string (str (listB rgBytes l))) ∧ Below w.heap.size w w' := by
  obtain ⟨a, cap, rfl⟩ := hv.form
  obtain ⟨_, hc, hcell⟩ := hv.at
  have HX := hid hcell
  have HO := hid hok
  have HL := hid (flatOf_le rgBytes 1000100 l (fun x hx => rgBytes_le x (hok x hx)))
  have H := fun (z : Int) (e : z = (l.length : Int)) (W : World) => by
    have h := num_any l.length (by unfold top64; omega) W
    rw [← e] at h
    exact h
  have hs0 : ∀ k, (str (num l.length ++ flatOf rgBytes l k)).size ≤ 10 + 1000100 * l.length := fun k => by
    rw [str_size, List.length_append]
    have := num_len l.length
    have := HL.out k
    omega
  have HS0 := hid hs0
  clear hcell hv hok hs0
  go_enter Try.func25, Try.ntmps25
  go_wp2_with fail
  refine Calls.mono (H _ rfl _) ?_
  rintro e w1 ⟨rfl, hb1⟩
  have HB1 := hid hb1
  clear hb1 H
  go_wp2_with fail
  go_loopw [5, 14] (fun vs  i wr => ∃ k : Nat, i = .int .i64 k ∧ k ≤ l.length ∧ vs = .string (str (num l.length ++ flatOf rgBytes l k)) ∧ Below w.heap.size w wr) (fun _  i _ => l.length - (intOf i).toNat)
  case atStart => exact ⟨0, rfl, Nat.zero_le _, by simp [flatOf], HB1.out⟩
  case round =>
    obtain ⟨k, rfl, hk, rfl, hB⟩ := hrel
    by_cases hlt : k < l.length
    · obtain ⟨b, off, rfl, hcell⟩ := HX.out (by rw [rgVals_len]; omega)
      have HC := hid hcell
      clear hcell
      have hx := HC.out wr hB _ _ (rgVals_at l k hlt).1
      have hy := HC.out wr hB _ _ (rgVals_at l k hlt).2
      rw [show off + (k * 2 + 1) = off + k * 2 + 1 by omega] at hy
      have HS := hid (flatOf_succ rgBytes l k hlt)
      have hcl := rgOne_any l[k] (HO.out _ (List.getElem_mem hlt)).1 (HO.out _ (List.getElem_mem hlt)).2
      have hle := rgBytes_le _ (HO.out _ (List.getElem_mem hlt))
      have hs1 := HS0.out k
      generalize l[k] = x at *
      have hBs := hB.size
      have hs2 : (str (rgBytes x)).size = (rgBytes x).length := str_size _
      have HA := hid (show str (num l.length ++ flatOf rgBytes l k) ++ str (rgBytes x) = str (num l.length ++ flatOf rgBytes l (k + 1)) by rw [HS.out, str_append, List.append_assoc])
      have HCL := hid hcl
      clear hcl
      generalize num l.length ++ flatOf rgBytes l k = Z at *
      go_wp2_with fail
      refine Calls.mono (HCL.out _) ?_
      rintro e w2 ⟨rfl, hb2⟩
      go_wp2_with fail
      go_roundw
      case rel => exact ⟨k + 1, by go_num, by omega, by rw [HA.out], (hB.alloc hBs _).trans (hb2.mono (by simp; omega))⟩
      case measure => simp [intOf]; omega
    · have HT := hid (flatOf_all rgBytes l k (by omega))
      go_wp2_with fail
      go_ret
      rw [HT.out]
      exact ⟨rfl, hB⟩

set_option maxRecDepth 100000 in
set_option maxHeartbeats 2000000 in
theorem listFlags_any (l : List Bytes) (v : Value) (w : World) (D : List Nat) (hv : Cells D w v l.length (strVals l)) (hn : l.length ≤ 1000) (hok : ∀ x ∈ l, okTx x) :
    Calls Try.prog 27 #[v, .func (.func 23) #[] #[]] w fun e w' => e = .returned (.string (str (listB text l))) ∧ Below w.heap.size w w' := by
  obtain ⟨a, cap, rfl⟩ := hv.form
  obtain ⟨_, hc, hcell⟩ := hv.at
  have HX := hid hcell
  have HO := hid hok
  have HL := hid (flatOf_le text 1000100 l (fun x hx => text_le x (hok x hx)))
  have H := fun (z : Int) (e : z = (l.length : Int)) (W : World) => by
    have h := num_any l.length (by unfold top64; omega) W
    rw [← e] at h
    exact h
  have hs0 : ∀ k, (str (num l.length ++ flatOf text l k)).size ≤ 10 + 1000100 * l.length := fun k => by
    rw [str_size, List.length_append]
    have := num_len l.length
    have := HL.out k
    omega
  have HS0 := hid hs0
  clear hcell hv hok hs0
  go_enter Try.func27, Try.ntmps27
  go_wp2_with fail
  refine Calls.mono (H _ rfl _) ?_
  rintro e w1 ⟨rfl, hb1⟩
  have HB1 := hid hb1
  clear hb1 H
  go_wp2_with fail
  go_loopw [5, 14] (fun vs  i wr => ∃ k : Nat, i = .int .i64 k ∧ k ≤ l.length ∧ vs = .string (str (num l.length ++ flatOf text l k)) ∧ Below w.heap.size w wr) (fun _  i _ => l.length - (intOf i).toNat)
  case atStart => exact ⟨0, rfl, Nat.zero_le _, by simp [flatOf], HB1.out⟩
  case round =>
    obtain ⟨k, rfl, hk, rfl, hB⟩ := hrel
    by_cases hlt : k < l.length
    · obtain ⟨b, off, rfl, hcell⟩ := HX.out (by rw [strVals_len]; omega)
      have HC := hid hcell
      clear hcell
      have hx := HC.out wr hB k _ (strVals_at l k hlt)
      have HS := hid (flatOf_succ text l k hlt)
      have hcl := text_any l[k] (by have := HO.out _ (List.getElem_mem hlt); unfold okTx at this; omega)
      have hle := text_le _ (HO.out _ (List.getElem_mem hlt))
      have hs1 := HS0.out k
      generalize l[k] = x at *
      have hBs := hB.size
      have hs2 : (str (text x)).size = (text x).length := str_size _
      have HA := hid (show str (num l.length ++ flatOf text l k) ++ str (text x) = str (num l.length ++ flatOf text l (k + 1)) by rw [HS.out, str_append, List.append_assoc])
      have HCL := hid hcl
      clear hcl
      generalize num l.length ++ flatOf text l k = Z at *
      go_wp2_with fail
      refine Calls.mono (HCL.out _) ?_
      rintro e w2 ⟨rfl, hb2⟩
      go_wp2_with fail
      go_roundw
      case rel => exact ⟨k + 1, by go_num, by omega, by rw [HA.out], hB.trans (hb2.mono hBs)⟩
      case measure => simp [intOf]; omega
    · have HT := hid (flatOf_all text l k (by omega))
      go_wp2_with fail
      go_ret
      rw [HT.out]
      exact ⟨rfl, hB⟩

set_option maxRecDepth 100000 in
set_option maxHeartbeats 2000000 in
theorem listEntries_any (l : List En) (v : Value) (w : World) (D : List Nat) (hv : Cells D w v l.length (enVals l)) (hn : l.length ≤ 1000) (hok : ∀ x ∈ l, okEn x) :
    Calls Try.prog 49 #[v, .func (.func 50) #[] #[]] w fun e w' => e = .returned (.string (str (listB enBytes l))) ∧ Below w.heap.size w w' := by
  obtain ⟨a, cap, rfl⟩ := hv.form
  obtain ⟨_, hc, hcell⟩ := hv.at
  have HX := hid hcell
  have HO := hid hok
  have HL := hid (flatOf_le enBytes 1000100 l (fun x hx => enBytes_le x (hok x hx)))
  have H := fun (z : Int) (e : z = (l.length : Int)) (W : World) => by
    have h := num_any l.length (by unfold top64; omega) W
    rw [← e] at h
    exact h
  have hs0 : ∀ k, (str (num l.length ++ flatOf enBytes l k)).size ≤ 10 + 1000100 * l.length := fun k => by
    rw [str_size, List.length_append]
    have := num_len l.length
    have := HL.out k
    omega
  have HS0 := hid hs0
  clear hcell hv hok hs0
  go_enter Try.func49, Try.ntmps49
  go_wp2_with fail
  refine Calls.mono (H _ rfl _) ?_
  rintro e w1 ⟨rfl, hb1⟩
  have HB1 := hid hb1
  clear hb1 H
  go_wp2_with fail
  go_loopw [5, 14] (fun vs  i wr => ∃ k : Nat, i = .int .i64 k ∧ k ≤ l.length ∧ vs = .string (str (num l.length ++ flatOf enBytes l k)) ∧ Below w.heap.size w wr) (fun _  i _ => l.length - (intOf i).toNat)
  case atStart => exact ⟨0, rfl, Nat.zero_le _, by simp [flatOf], HB1.out⟩
  case round =>
    obtain ⟨k, rfl, hk, rfl, hB⟩ := hrel
    by_cases hlt : k < l.length
    · obtain ⟨b, off, rfl, hcell⟩ := HX.out (by rw [enVals_len]; omega)
      have HC := hid hcell
      clear hcell
      have hx := HC.out wr hB _ _ (enVals_at l k hlt).1
      have hy := HC.out wr hB _ _ (enVals_at l k hlt).2.1
      have hz := HC.out wr hB _ _ (enVals_at l k hlt).2.2
      rw [show off + (k * 3 + 1) = off + k * 3 + 1 by omega] at hy
      rw [show off + (k * 3 + 2) = off + k * 3 + 2 by omega] at hz
      have HS := hid (flatOf_succ enBytes l k hlt)
      have hcl := (have h := HO.out _ (List.getElem_mem hlt); enOne_any l[k] h.1 h.2.1 h.2.2.1 h.2.2.2)
      have hle := enBytes_le _ (HO.out _ (List.getElem_mem hlt))
      have hs1 := HS0.out k
      generalize l[k] = x at *
      have hBs := hB.size
      have hs2 : (str (enBytes x)).size = (enBytes x).length := str_size _
      have HA := hid (show str (num l.length ++ flatOf enBytes l k) ++ str (enBytes x) = str (num l.length ++ flatOf enBytes l (k + 1)) by rw [HS.out, str_append, List.append_assoc])
      have HCL := hid hcl
      clear hcl
      generalize num l.length ++ flatOf enBytes l k = Z at *
      go_wp2_with fail
      refine Calls.mono (HCL.out _) ?_
      rintro e w2 ⟨rfl, hb2⟩
      go_wp2_with fail
      go_roundw
      case rel => exact ⟨k + 1, by go_num, by omega, by rw [HA.out], (hB.alloc hBs _).trans (hb2.mono (by simp; omega))⟩
      case measure => simp [intOf]; omega
    · have HT := hid (flatOf_all enBytes l k (by omega))
      go_wp2_with fail
      go_ret
      rw [HT.out]
      exact ⟨rfl, hB⟩

set_option maxRecDepth 100000 in
set_option maxHeartbeats 2000000 in
theorem listConfs_any (l : List Int) (v : Value) (w : World) (D : List Nat) (hv : Cells D w v l.length (intVals l)) (hn : l.length ≤ 1000) (hok : ∀ x ∈ l, okCf x) :
    Calls Try.prog 51 #[v, .func (.func 52) #[] #[]] w fun e w' => e = .returned (.string (str (listB cfBytes l))) ∧ Below w.heap.size w w' := by
  obtain ⟨a, cap, rfl⟩ := hv.form
  obtain ⟨_, hc, hcell⟩ := hv.at
  have HX := hid hcell
  have HO := hid hok
  have HL := hid (flatOf_le cfBytes 1000100 l (fun x hx => cfBytes_le x (hok x hx)))
  have H := fun (z : Int) (e : z = (l.length : Int)) (W : World) => by
    have h := num_any l.length (by unfold top64; omega) W
    rw [← e] at h
    exact h
  have hs0 : ∀ k, (str (num l.length ++ flatOf cfBytes l k)).size ≤ 10 + 1000100 * l.length := fun k => by
    rw [str_size, List.length_append]
    have := num_len l.length
    have := HL.out k
    omega
  have HS0 := hid hs0
  clear hcell hv hok hs0
  go_enter Try.func51, Try.ntmps51
  go_wp2_with fail
  refine Calls.mono (H _ rfl _) ?_
  rintro e w1 ⟨rfl, hb1⟩
  have HB1 := hid hb1
  clear hb1 H
  go_wp2_with fail
  go_loopw [5, 14] (fun vs  i wr => ∃ k : Nat, i = .int .i64 k ∧ k ≤ l.length ∧ vs = .string (str (num l.length ++ flatOf cfBytes l k)) ∧ Below w.heap.size w wr) (fun _  i _ => l.length - (intOf i).toNat)
  case atStart => exact ⟨0, rfl, Nat.zero_le _, by simp [flatOf], HB1.out⟩
  case round =>
    obtain ⟨k, rfl, hk, rfl, hB⟩ := hrel
    by_cases hlt : k < l.length
    · obtain ⟨b, off, rfl, hcell⟩ := HX.out (by rw [intVals_len]; omega)
      have HC := hid hcell
      clear hcell
      have hx := HC.out wr hB k _ (intVals_at l k hlt)
      have HS := hid (flatOf_succ cfBytes l k hlt)
      have hcl := (have h := HO.out _ (List.getElem_mem hlt); cfOne_int l[k] h.1 h.2)
      have hle := cfBytes_le _ (HO.out _ (List.getElem_mem hlt))
      have hs1 := HS0.out k
      generalize l[k] = x at *
      have hBs := hB.size
      have hs2 : (str (cfBytes x)).size = (cfBytes x).length := str_size _
      have HA := hid (show str (num l.length ++ flatOf cfBytes l k) ++ str (cfBytes x) = str (num l.length ++ flatOf cfBytes l (k + 1)) by rw [HS.out, str_append, List.append_assoc])
      have HCL := hid hcl
      clear hcl
      generalize num l.length ++ flatOf cfBytes l k = Z at *
      go_wp2_with fail
      refine Calls.mono (HCL.out _) ?_
      rintro e w2 ⟨rfl, hb2⟩
      go_wp2_with fail
      go_roundw
      case rel => exact ⟨k + 1, by go_num, by omega, by rw [HA.out], hB.trans (hb2.mono hBs)⟩
      case measure => simp [intOf]; omega
    · have HT := hid (flatOf_all cfBytes l k (by omega))
      go_wp2_with fail
      go_ret
      rw [HT.out]
      exact ⟨rfl, hB⟩

end Go.Proofs.Ytgkapgfpalbkjaa