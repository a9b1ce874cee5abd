/-
  Records: what they are; the walks of framed, hardRecord, entryRecord, may, members, last, numbers.
-/
import Derived.Test.YtmehcogaopackaaJDk
import Derived.Test.YtmehcogaopackaaFrame
import Derived.Test.YtmehcogaopackaaNums
import Derived.Deep.RegionHeld3
import Derived.IntWalk
namespace Go.Proofs.Ytmehcogaopackaa
open Go.RowKit
set_option linter.unusedVariables false
set_option linter.unusedSimpArgs false
structure Hd where
  term : Nat
  vote : Int
  life : Nat
structure Lg where
  base : Nat
  bterm : Nat
  conf : List Int
  l : List En
/-- a journal's state -/
structure Js where
  hard : Hd
  log : Lg
  image : Bytes
def hardBody (h : Hd) : Bytes := num 3 ++ num h.term ++ num h.vote.toNat ++ num h.life
def hardRec (h : Hd) : Bytes := frame (hardBody h)
def entBody (i : Nat) (e : En) : Bytes := num 4 ++ num i ++ num e.term ++ num e.kind.toNat ++ text e.data
def entRec (i : Nat) (e : En) : Bytes := frame (entBody i e)
def mayEn (e : En) : Bool := decide (1 ≤ e.kind) && (decide (e.kind ≤ 3) && decide (e.data.length ≤ 2048))
theorem text_len (l : Bytes) : (text l).length ≤ 10 + l.length := by
  have := num_len l.length
  unfold text
  rw [List.length_append]
  omega
theorem framed_any (u : Bytes) (hu : u.length ≤ 65536) (w : World) :
    Calls Try.prog 41 #[.string (str u)] w fun e w' => e = .returned (.string (str (frame u))) ∧ Below w.heap.size w w' := by
  have H := hid (show Calls Try.prog 65 #[.string (str u)] w fun x w' => x = .returned (.tuple #[.string (str (frame u)), .int .i64 (0 : Nat)]) ∧ Below w.heap.size w w' by
    have h := frame_any (str u) w (by rw [str_size]; unfold maxLen; omega)
    rw [show (str u).data.toList = u from rfl, show frameOf u = (frame u, 0) by unfold frameOf; rw [if_neg (by omega)]] at h
    exact h)
  go_enter Try.func41, Try.ntmps41
  go_wp2_with fail
  refine Calls.mono H.out ?_
  rintro e w1 ⟨rfl, hb1⟩
  go_wp2_with fail
  go_ret
  exact ⟨rfl, hb1⟩
theorem numL1 (w : World) : Calls Try.prog 42 #[.int .u64 1] w fun e w' => e = .returned (.string (str (num 1))) ∧ Below w.heap.size w w' := num_any 1 (by decide) w
theorem numL2 (w : World) : Calls Try.prog 42 #[.int .u64 2] w fun e w' => e = .returned (.string (str (num 2))) ∧ Below w.heap.size w w' := num_any 2 (by decide) w
theorem numL3 (w : World) : Calls Try.prog 42 #[.int .u64 3] w fun e w' => e = .returned (.string (str (num 3))) ∧ Below w.heap.size w w' := num_any 3 (by decide) w
theorem numL4 (w : World) : Calls Try.prog 42 #[.int .u64 4] w fun e w' => e = .returned (.string (str (num 4))) ∧ Below w.heap.size w w' := num_any 4 (by decide) w
/-- the box of an argument, and the world below -/
def ZB (B k : Nat) (w : World) (o : Obj) (W : World) : Prop := W.heap[k]? = some o ∧ Below B w W ∧ B ≤ W.heap.size
theorem ZB.below {B k : Nat} {w W W' : World} {o : Obj} (h : ZB B k w o W) (hb : Below W.heap.size W W') : ZB B k w o W' := ⟨(hb.block k (Array.getElem?_eq_some_iff.1 h.1).1).trans h.1, h.2.1.trans (hb.mono h.2.2), Nat.le_trans h.2.2 hb.size⟩
set_option maxRecDepth 100000 in
set_option maxHeartbeats 4000000 in
theorem hard_at (term vote life : Nat) (ht : term < top64) (hv : vote < 1000) (hl : life < top64) (w : World) :
    Calls Try.prog 29 #[.agg #[.int .u64 term, .int .i64 (vote : Int), .int .u64 life]] w fun e w' => e = .returned (.string (str (frame (num 3 ++ num term ++ num vote ++ num life)))) ∧ Below w.heap.size w w' := by
  have hw1 : IntKind.u64.wrap (vote : Int) = (vote : Int) := by rw [IntKind.wrap_u64]; omega
  have hv2 : vote < top64 := by unfold top64; omega
  have HB0 : Hid (Below w.heap.size w (w.alloc (.cells #[.int .u64 term, .int .i64 (vote : Int), .int .u64 life] 25))) := (Below.refl _ _).alloc (Nat.le_refl _) _
  have HK := hid (heap_alloc_new w (.cells #[.int .u64 term, .int .i64 (vote : Int), .int .u64 life] 25))
  have ln0 : (num 3).length ≤ 10 := num_len _
  have ln1 : (num term).length ≤ 10 := num_len _
  have ln2 : (num vote).length ≤ 10 := num_len _
  have ln3 : (num life).length ≤ 10 := num_len _
  have sz0 : (str (num 3)).size = (num 3).length := str_size _
  have sz1 : (str (num term)).size = (num term).length := str_size _
  have sz2 : (str (num vote)).size = (num vote).length := str_size _
  have sz3 : (str (num life)).size = (num life).length := str_size _
  generalize Ae0 : num 3 ++ num term = A0 at *
  have As0 : str (num 3) ++ str (num term) = str A0 := by rw [str_append, Ae0]
  have Ab0 : A0.length ≤ 5100 := by rw [← Ae0, List.length_append]; omega
  have An0 : ¬ (9223372036854775807 < (num 3).length + (num term).length) := by omega
  have Az0 : (str A0).size = A0.length := str_size _
  generalize Ae1 : A0 ++ num vote = A1 at *
  have As1 : str (A0) ++ str (num vote) = str A1 := by rw [str_append, Ae1]
  have Ab1 : A1.length ≤ 10100 := by rw [← Ae1, List.length_append]; omega
  have An1 : ¬ (9223372036854775807 < (A0).length + (num vote).length) := by omega
  have Az1 : (str A1).size = A1.length := str_size _
  generalize Ae2 : A1 ++ num life = A2 at *
  have As2 : str (A1) ++ str (num life) = str A2 := by rw [str_append, Ae2]
  have Ab2 : A2.length ≤ 15100 := by rw [← Ae2, List.length_append]; omega
  have An2 : ¬ (9223372036854775807 < (A1).length + (num life).length) := by omega
  have Az2 : (str A2).size = A2.length := str_size _
  have HBL := hid (show A2.length ≤ 65536 by omega)
  clear Ae0 Ae1 Ae2
  go_enter Try.func29, Try.ntmps29
  go_wp2_with fail
  generalize hke : w.heap.size = k at HK ⊢
  clear hke
  have hZ1 : ZB w.heap.size k w (.cells #[.int .u64 term, .int .i64 (vote : Int), .int .u64 life] 25) (w.alloc (.cells #[.int .u64 term, .int .i64 (vote : Int), .int .u64 life] 25)).drew := ⟨HK.out, HB0.out.drew, HB0.out.size⟩
  clear HK HB0
  generalize w.alloc (.cells #[.int .u64 term, .int .i64 (vote : Int), .int .u64 life] 25) = W0 at hZ1 ⊢
  have HCO : Hid (∀ W : World, ZB w.heap.size k w (.cells #[.int .u64 term, .int .i64 (vote : Int), .int .u64 life] 25) W → W.cell? ⟨k, 0, none⟩ = some (.int .u64 term) ∧ W.cell? ⟨k, 1, none⟩ = some (.int .i64 (vote : Int)) ∧ W.cell? ⟨k, 2, none⟩ = some (.int .u64 life)) := fun W h0 => by have h := h0.1; exact ⟨cell_in h 0 _ rfl, cell_in h 1 _ rfl, cell_in h 2 _ rfl⟩
  go_region_held3 (fun W => W.cell? ⟨k, 0, none⟩ = some (.int .u64 term) ∧ W.cell? ⟨k, 1, none⟩ = some (.int .i64 (vote : Int)) ∧ W.cell? ⟨k, 2, none⟩ = some (.int .u64 life)) (first | exact HCO.out _ (by assumption))
    (first
    | (go_at_call 42; (with_reducible refine Calls.mono (numL3 _) ?_); rintro e w' ⟨rfl, hb'⟩; have hZ' := ZB.below (by assumption) hb'; clear hb')
    | (go_at_call 42; (with_reducible refine Calls.mono (num_any _ (by first | assumption | (unfold top64; omega)) _) ?_); rintro e w' ⟨rfl, hb'⟩; have hZ' := ZB.below (by assumption) hb'; clear hb')
    | (go_at_call 44; refine Calls.mono (text_any _ (by omega) _) ?_; rintro e w' ⟨rfl, hb'⟩; have hZ' := ZB.below (by assumption) hb'; clear hb')
    | (go_at_call 41; refine Calls.mono (framed_any _ HBL.out _) ?_; rintro e w' ⟨rfl, hb'⟩; have hZ' := ZB.below (by assumption) hb'; clear hb'))
  have hZE := hZ'
  go_wp2_with fail
  go_ret
  exact ⟨rfl, hZE.2.1⟩
set_option maxRecDepth 100000 in
set_option maxHeartbeats 4000000 in
theorem ent_at (i term kind : Nat) (data : Bytes) (hi : i < top64) (ht : term < top64) (hk : kind < 1000) (hd : data.length ≤ 4000) (w : World) :
    Calls Try.prog 35 #[.int .u64 i, .agg #[.int .u64 term, .int .i64 (kind : Int), .string (str data)]] w fun e w' => e = .returned (.string (str (frame (num 4 ++ num i ++ num term ++ num kind ++ text data)))) ∧ Below w.heap.size w w' := by
  have hw1 : IntKind.u64.wrap (kind : Int) = (kind : Int) := by rw [IntKind.wrap_u64]; omega
  have hk2 : kind < top64 := by unfold top64; omega
  have l6 := text_len data
  have HB0 : Hid (Below w.heap.size w (w.alloc (.cells #[.int .u64 term, .int .i64 (kind : Int), .string (str data)] 50))) := (Below.refl _ _).alloc (Nat.le_refl _) _
  have HK := hid (heap_alloc_new w (.cells #[.int .u64 term, .int .i64 (kind : Int), .string (str data)] 50))
  have ln0 : (num 4).length ≤ 10 := num_len _
  have ln1 : (num i).length ≤ 10 := num_len _
  have ln2 : (num term).length ≤ 10 := num_len _
  have ln3 : (num kind).length ≤ 10 := num_len _
  have sz0 : (str (num 4)).size = (num 4).length := str_size _
  have sz1 : (str (num i)).size = (num i).length := str_size _
  have sz2 : (str (num term)).size = (num term).length := str_size _
  have sz3 : (str (num kind)).size = (num kind).length := str_size _
  have sz4 : (str (text data)).size = (text data).length := str_size _
  generalize Ae0 : num 4 ++ num i = A0 at *
  have As0 : str (num 4) ++ str (num i) = str A0 := by rw [str_append, Ae0]
  have Ab0 : A0.length ≤ 5100 := by rw [← Ae0, List.length_append]; omega
  have An0 : ¬ (9223372036854775807 < (num 4).length + (num i).length) := by omega
  have Az0 : (str A0).size = A0.length := str_size _
  generalize Ae1 : A0 ++ num term = A1 at *
  have As1 : str (A0) ++ str (num term) = str A1 := by rw [str_append, Ae1]
  have Ab1 : A1.length ≤ 10100 := by rw [← Ae1, List.length_append]; omega
  have An1 : ¬ (9223372036854775807 < (A0).length + (num term).length) := by omega
  have Az1 : (str A1).size = A1.length := str_size _
  generalize Ae2 : A1 ++ num kind = A2 at *
  have As2 : str (A1) ++ str (num kind) = str A2 := by rw [str_append, Ae2]
  have Ab2 : A2.length ≤ 15100 := by rw [← Ae2, List.length_append]; omega
  have An2 : ¬ (9223372036854775807 < (A1).length + (num kind).length) := by omega
  have Az2 : (str A2).size = A2.length := str_size _
  generalize Ae3 : A2 ++ text data = A3 at *
  have As3 : str (A2) ++ str (text data) = str A3 := by rw [str_append, Ae3]
  have Ab3 : A3.length ≤ 20100 := by rw [← Ae3, List.length_append]; omega
  have An3 : ¬ (9223372036854775807 < (A2).length + (text data).length) := by omega
  have Az3 : (str A3).size = A3.length := str_size _
  have HBL := hid (show A3.length ≤ 65536 by omega)
  clear Ae0 Ae1 Ae2 Ae3
  go_enter Try.func35, Try.ntmps35
  go_wp2_with fail
  generalize hke : w.heap.size = k at HK ⊢
  clear hke
  have hZ1 : ZB w.heap.size k w (.cells #[.int .u64 term, .int .i64 (kind : Int), .string (str data)] 50) (w.alloc (.cells #[.int .u64 term, .int .i64 (kind : Int), .string (str data)] 50)).drew := ⟨HK.out, HB0.out.drew, HB0.out.size⟩
  clear HK HB0
  generalize w.alloc (.cells #[.int .u64 term, .int .i64 (kind : Int), .string (str data)] 50) = W0 at hZ1 ⊢
  have HCO : Hid (∀ W : World, ZB w.heap.size k w (.cells #[.int .u64 term, .int .i64 (kind : Int), .string (str data)] 50) W → W.cell? ⟨k, 0, none⟩ = some (.int .u64 term) ∧ W.cell? ⟨k, 1, none⟩ = some (.int .i64 (kind : Int)) ∧ W.cell? ⟨k, 2, none⟩ = some (.string (str data))) := fun W h0 => by have h := h0.1; exact ⟨cell_in h 0 _ rfl, cell_in h 1 _ rfl, cell_in h 2 _ rfl⟩
  go_region_held3 (fun W => W.cell? ⟨k, 0, none⟩ = some (.int .u64 term) ∧ W.cell? ⟨k, 1, none⟩ = some (.int .i64 (kind : Int)) ∧ W.cell? ⟨k, 2, none⟩ = some (.string (str data))) (first | exact HCO.out _ (by assumption))
    (first
    | (go_at_call 42; (with_reducible refine Calls.mono (numL4 _) ?_); rintro e w' ⟨rfl, hb'⟩; have hZ' := ZB.below (by assumption) hb'; clear hb')
    | (go_at_call 42; (with_reducible refine Calls.mono (num_any _ (by first | assumption | (unfold top64; omega)) _) ?_); rintro e w' ⟨rfl, hb'⟩; have hZ' := ZB.below (by assumption) hb'; clear hb')
    | (go_at_call 44; refine Calls.mono (text_any _ (by omega) _) ?_; rintro e w' ⟨rfl, hb'⟩; have hZ' := ZB.below (by assumption) hb'; clear hb')
    | (go_at_call 41; refine Calls.mono (framed_any _ HBL.out _) ?_; rintro e w' ⟨rfl, hb'⟩; have hZ' := ZB.below (by assumption) hb'; clear hb'))
  have hZE := hZ'
  go_wp2_with fail
  go_ret
  exact ⟨rfl, hZE.2.1⟩
theorem hard_any (h : Hd) (ht : h.term < top64) (hv : 0 ≤ h.vote ∧ h.vote < 1000) (hl : h.life < top64) (w : World) :
    Calls Try.prog 29 #[.agg #[.int .u64 h.term, .int .i64 h.vote, .int .u64 h.life]] w fun e w' => e = .returned (.string (str (hardRec h))) ∧ Below w.heap.size w w' := by
  obtain ⟨t, v, l⟩ := h
  obtain ⟨n, rfl⟩ := Int.eq_ofNat_of_zero_le hv.1
  exact hard_at t n l ht (by simp only at hv; omega) hl w
theorem ent_any (i : Nat) (e : En) (hi : i < top64) (ht : e.term < top64) (hm : mayEn e = true) (w : World) :
    Calls Try.prog 35 #[.int .u64 i, .agg #[.int .u64 e.term, .int .i64 e.kind, .string (str e.data)]] w fun x w' => x = .returned (.string (str (entRec i e))) ∧ Below w.heap.size w w' := by
  obtain ⟨t, v, d⟩ := e
  unfold mayEn at hm
  simp only [Bool.and_eq_true, decide_eq_true_eq] at hm
  obtain ⟨n, rfl⟩ := Int.eq_ofNat_of_zero_le (a := v) (by omega)
  exact ent_at i t n d hi ht (by omega) (by omega) w
end Go.Proofs.Ytmehcogaopackaa
