/-
  The walks of the disk's small functions: Off, Used, may, spend, Fuse, Read, New. (Several texts in one.)
-/
import Derived.Deep.RegionHeld3
import Derived.IntWalk
import Derived.Maps.AppendAt
import Derived.Shelf.Strings.OnBuilder
import Derived.Ground.SlgnProg
import Derived.Shelf.SlicesE.Clone
import Derived.Shelf.SlMaps.Clone
import Derived.Test.YtmehcogaopackaaGreatProg
import Derived.WalkKit
import Derived.LoopTactic
import Derived.OwnWalk
import Derived.Outline
import Derived.WalkLawsBesides
import Derived.WalkSpells
import Derived.Handy
import Derived.BigQuiet
import Derived.Deep.QuietTactic
import Derived.Maps.RangeWalk
import Derived.Test.YtmehcogaopackaaGreatGD
/- Records: what they are; the walks of framed, hardRecord, entryRecord, may, members, last, numbers. -/
namespace Go.Proofs.YtmehcogaopackaaGreat
open Go.RowKit
set_option linter.unusedVariables false
set_option linter.unusedSimpArgs false
structure Hd where
  term : Nat
  vote : Int
  life : Nat
structure Lg where
  base : Nat
  bterm : Nat
  conf : List Int
  l : List En
/-- a journal's state -/
structure Js where
  hard : Hd
  log : Lg
  image : Bytes
def hardBody (h : Hd) : Bytes := num 3 ++ num h.term ++ num h.vote.toNat ++ num h.life
def hardRec (h : Hd) : Bytes := frame (hardBody h)
def entBody (i : Nat) (e : En) : Bytes := num 4 ++ num i ++ num e.term ++ num e.kind.toNat ++ text e.data
def entRec (i : Nat) (e : En) : Bytes := frame (entBody i e)
def mayEn (e : En) : Bool := decide (1 ≤ e.kind) && (decide (e.kind ≤ 3) && decide (e.data.length ≤ 2048))
theorem text_len (l : Bytes) : (text l).length ≤ 10 + l.length := by
  have := num_len l.length
  unfold text
  rw [List.length_append]
  omega
theorem framed_any (u : Bytes) (hu : u.length ≤ 65536) (w : World) :
    Calls Tryz.prog 73 #[.string (str u)] w fun e w' => e = .returned (.string (str (frame u))) ∧ Below w.heap.size w w' := by
  have H := hid (show Calls Tryz.prog 105 #[.string (str u)] w fun x w' => x = .returned (.tuple #[.string (str (frame u)), .int .i64 (0 : Nat)]) ∧ Below w.heap.size w w' by
    have h := frame_any (str u) w (by rw [str_size]; unfold maxLen; omega)
    rw [show (str u).data.toList = u from rfl, show frameOf u = (frame u, 0) by unfold frameOf; rw [if_neg (by omega)]] at h
    exact h)
  go_enter Tryz.func73, Tryz.ntmps73
  go_wp2_with fail
  refine Calls.mono H.out ?_
  rintro e w1 ⟨rfl, hb1⟩
  go_wp2_with fail
  go_ret
  exact ⟨rfl, hb1⟩
theorem numL1 (w : World) : Calls Tryz.prog 74 #[.int .u64 1] w fun e w' => e = .returned (.string (str (num 1))) ∧ Below w.heap.size w w' := num_any 1 (by decide) w
theorem numL2 (w : World) : Calls Tryz.prog 74 #[.int .u64 2] w fun e w' => e = .returned (.string (str (num 2))) ∧ Below w.heap.size w w' := num_any 2 (by decide) w
theorem numL3 (w : World) : Calls Tryz.prog 74 #[.int .u64 3] w fun e w' => e = .returned (.string (str (num 3))) ∧ Below w.heap.size w w' := num_any 3 (by decide) w
theorem numL4 (w : World) : Calls Tryz.prog 74 #[.int .u64 4] w fun e w' => e = .returned (.string (str (num 4))) ∧ Below w.heap.size w w' := num_any 4 (by decide) w
/-- the box of an argument, and the world below -/
def ZB (B k : Nat) (w : World) (o : Obj) (W : World) : Prop := W.heap[k]? = some o ∧ Below B w W ∧ B ≤ W.heap.size
theorem ZB.below {B k : Nat} {w W W' : World} {o : Obj} (h : ZB B k w o W) (hb : Below W.heap.size W W') : ZB B k w o W' := ⟨(hb.block k (Array.getElem?_eq_some_iff.1 h.1).1).trans h.1, h.2.1.trans (hb.mono h.2.2), Nat.le_trans h.2.2 hb.size⟩
set_option maxRecDepth 100000 in
set_option maxHeartbeats 4000000 in
theorem hard_at (term vote life : Nat) (ht : term < top64) (hv : vote < 1000) (hl : life < top64) (w : World) :
    Calls Tryz.prog 48 #[.agg #[.int .u64 term, .int .i64 (vote : Int), .int .u64 life]] w fun e w' => e = .returned (.string (str (frame (num 3 ++ num term ++ num vote ++ num life)))) ∧ Below w.heap.size w w' := by
  have hw1 : IntKind.u64.wrap (vote : Int) = (vote : Int) := by rw [IntKind.wrap_u64]; omega
  have hv2 : vote < top64 := by unfold top64; omega
  have HB0 : Hid (Below w.heap.size w (w.alloc (.cells #[.int .u64 term, .int .i64 (vote : Int), .int .u64 life] 45))) := (Below.refl _ _).alloc (Nat.le_refl _) _
  have HK := hid (heap_alloc_new w (.cells #[.int .u64 term, .int .i64 (vote : Int), .int .u64 life] 45))
  have ln0 : (num 3).length ≤ 10 := num_len _
  have ln1 : (num term).length ≤ 10 := num_len _
  have ln2 : (num vote).length ≤ 10 := num_len _
  have ln3 : (num life).length ≤ 10 := num_len _
  have sz0 : (str (num 3)).size = (num 3).length := str_size _
  have sz1 : (str (num term)).size = (num term).length := str_size _
  have sz2 : (str (num vote)).size = (num vote).length := str_size _
  have sz3 : (str (num life)).size = (num life).length := str_size _
  generalize Ae0 : num 3 ++ num term = A0 at *
  have As0 : str (num 3) ++ str (num term) = str A0 := by rw [str_append, Ae0]
  have Ab0 : A0.length ≤ 5100 := by rw [← Ae0, List.length_append]; omega
  have An0 : ¬ (9223372036854775807 < (num 3).length + (num term).length) := by omega
  have Az0 : (str A0).size = A0.length := str_size _
  generalize Ae1 : A0 ++ num vote = A1 at *
  have As1 : str (A0) ++ str (num vote) = str A1 := by rw [str_append, Ae1]
  have Ab1 : A1.length ≤ 10100 := by rw [← Ae1, List.length_append]; omega
  have An1 : ¬ (9223372036854775807 < (A0).length + (num vote).length) := by omega
  have Az1 : (str A1).size = A1.length := str_size _
  generalize Ae2 : A1 ++ num life = A2 at *
  have As2 : str (A1) ++ str (num life) = str A2 := by rw [str_append, Ae2]
  have Ab2 : A2.length ≤ 15100 := by rw [← Ae2, List.length_append]; omega
  have An2 : ¬ (9223372036854775807 < (A1).length + (num life).length) := by omega
  have Az2 : (str A2).size = A2.length := str_size _
  have HBL := hid (show A2.length ≤ 65536 by omega)
  clear Ae0 Ae1 Ae2
  go_enter Tryz.func48, Tryz.ntmps48
  go_wp2_with fail
  generalize hke : w.heap.size = k at HK ⊢
  clear hke
  have hZ1 : ZB w.heap.size k w (.cells #[.int .u64 term, .int .i64 (vote : Int), .int .u64 life] 45) (w.alloc (.cells #[.int .u64 term, .int .i64 (vote : Int), .int .u64 life] 45)).drew := ⟨HK.out, HB0.out.drew, HB0.out.size⟩
  clear HK HB0
  generalize w.alloc (.cells #[.int .u64 term, .int .i64 (vote : Int), .int .u64 life] 45) = W0 at hZ1 ⊢
  have HCO : Hid (∀ W : World, ZB w.heap.size k w (.cells #[.int .u64 term, .int .i64 (vote : Int), .int .u64 life] 45) W → W.cell? ⟨k, 0, none⟩ = some (.int .u64 term) ∧ W.cell? ⟨k, 1, none⟩ = some (.int .i64 (vote : Int)) ∧ W.cell? ⟨k, 2, none⟩ = some (.int .u64 life)) := fun W h0 => by have h := h0.1; exact ⟨cell_in h 0 _ rfl, cell_in h 1 _ rfl, cell_in h 2 _ rfl⟩
  go_region_held3 (fun W => W.cell? ⟨k, 0, none⟩ = some (.int .u64 term) ∧ W.cell? ⟨k, 1, none⟩ = some (.int .i64 (vote : Int)) ∧ W.cell? ⟨k, 2, none⟩ = some (.int .u64 life)) (first | exact HCO.out _ (by assumption))
    (first
    | (go_at_call 74; (with_reducible refine Calls.mono (numL3 _) ?_); rintro e w' ⟨rfl, hb'⟩; have hZ' := ZB.below (by assumption) hb'; clear hb')
    | (go_at_call 74; (with_reducible refine Calls.mono (num_any _ (by first | assumption | (unfold top64; omega)) _) ?_); rintro e w' ⟨rfl, hb'⟩; have hZ' := ZB.below (by assumption) hb'; clear hb')
    | (go_at_call 76; refine Calls.mono (text_any _ (by omega) _) ?_; rintro e w' ⟨rfl, hb'⟩; have hZ' := ZB.below (by assumption) hb'; clear hb')
    | (go_at_call 73; refine Calls.mono (framed_any _ HBL.out _) ?_; rintro e w' ⟨rfl, hb'⟩; have hZ' := ZB.below (by assumption) hb'; clear hb'))
  have hZE := hZ'
  go_wp2_with fail
  go_ret
  exact ⟨rfl, hZE.2.1⟩
set_option maxRecDepth 100000 in
set_option maxHeartbeats 4000000 in
theorem ent_at (i term kind : Nat) (data : Bytes) (hi : i < top64) (ht : term < top64) (hk : kind < 1000) (hd : data.length ≤ 4000) (w : World) :
    Calls Tryz.prog 67 #[.int .u64 i, .agg #[.int .u64 term, .int .i64 (kind : Int), .string (str data)]] w fun e w' => e = .returned (.string (str (frame (num 4 ++ num i ++ num term ++ num kind ++ text data)))) ∧ Below w.heap.size w w' := by
  have hw1 : IntKind.u64.wrap (kind : Int) = (kind : Int) := by rw [IntKind.wrap_u64]; omega
  have hk2 : kind < top64 := by unfold top64; omega
  have l6 := text_len data
  have HB0 : Hid (Below w.heap.size w (w.alloc (.cells #[.int .u64 term, .int .i64 (kind : Int), .string (str data)] 116))) := (Below.refl _ _).alloc (Nat.le_refl _) _
  have HK := hid (heap_alloc_new w (.cells #[.int .u64 term, .int .i64 (kind : Int), .string (str data)] 116))
  have ln0 : (num 4).length ≤ 10 := num_len _
  have ln1 : (num i).length ≤ 10 := num_len _
  have ln2 : (num term).length ≤ 10 := num_len _
  have ln3 : (num kind).length ≤ 10 := num_len _
  have sz0 : (str (num 4)).size = (num 4).length := str_size _
  have sz1 : (str (num i)).size = (num i).length := str_size _
  have sz2 : (str (num term)).size = (num term).length := str_size _
  have sz3 : (str (num kind)).size = (num kind).length := str_size _
  have sz4 : (str (text data)).size = (text data).length := str_size _
  generalize Ae0 : num 4 ++ num i = A0 at *
  have As0 : str (num 4) ++ str (num i) = str A0 := by rw [str_append, Ae0]
  have Ab0 : A0.length ≤ 5100 := by rw [← Ae0, List.length_append]; omega
  have An0 : ¬ (9223372036854775807 < (num 4).length + (num i).length) := by omega
  have Az0 : (str A0).size = A0.length := str_size _
  generalize Ae1 : A0 ++ num term = A1 at *
  have As1 : str (A0) ++ str (num term) = str A1 := by rw [str_append, Ae1]
  have Ab1 : A1.length ≤ 10100 := by rw [← Ae1, List.length_append]; omega
  have An1 : ¬ (9223372036854775807 < (A0).length + (num term).length) := by omega
  have Az1 : (str A1).size = A1.length := str_size _
  generalize Ae2 : A1 ++ num kind = A2 at *
  have As2 : str (A1) ++ str (num kind) = str A2 := by rw [str_append, Ae2]
  have Ab2 : A2.length ≤ 15100 := by rw [← Ae2, List.length_append]; omega
  have An2 : ¬ (9223372036854775807 < (A1).length + (num kind).length) := by omega
  have Az2 : (str A2).size = A2.length := str_size _
  generalize Ae3 : A2 ++ text data = A3 at *
  have As3 : str (A2) ++ str (text data) = str A3 := by rw [str_append, Ae3]
  have Ab3 : A3.length ≤ 20100 := by rw [← Ae3, List.length_append]; omega
  have An3 : ¬ (9223372036854775807 < (A2).length + (text data).length) := by omega
  have Az3 : (str A3).size = A3.length := str_size _
  have HBL := hid (show A3.length ≤ 65536 by omega)
  clear Ae0 Ae1 Ae2 Ae3
  go_enter Tryz.func67, Tryz.ntmps67
  go_wp2_with fail
  generalize hke : w.heap.size = k at HK ⊢
  clear hke
  have hZ1 : ZB w.heap.size k w (.cells #[.int .u64 term, .int .i64 (kind : Int), .string (str data)] 116) (w.alloc (.cells #[.int .u64 term, .int .i64 (kind : Int), .string (str data)] 116)).drew := ⟨HK.out, HB0.out.drew, HB0.out.size⟩
  clear HK HB0
  generalize w.alloc (.cells #[.int .u64 term, .int .i64 (kind : Int), .string (str data)] 116) = W0 at hZ1 ⊢
  have HCO : Hid (∀ W : World, ZB w.heap.size k w (.cells #[.int .u64 term, .int .i64 (kind : Int), .string (str data)] 116) W → W.cell? ⟨k, 0, none⟩ = some (.int .u64 term) ∧ W.cell? ⟨k, 1, none⟩ = some (.int .i64 (kind : Int)) ∧ W.cell? ⟨k, 2, none⟩ = some (.string (str data))) := fun W h0 => by have h := h0.1; exact ⟨cell_in h 0 _ rfl, cell_in h 1 _ rfl, cell_in h 2 _ rfl⟩
  go_region_held3 (fun W => W.cell? ⟨k, 0, none⟩ = some (.int .u64 term) ∧ W.cell? ⟨k, 1, none⟩ = some (.int .i64 (kind : Int)) ∧ W.cell? ⟨k, 2, none⟩ = some (.string (str data))) (first | exact HCO.out _ (by assumption))
    (first
    | (go_at_call 74; (with_reducible refine Calls.mono (numL4 _) ?_); rintro e w' ⟨rfl, hb'⟩; have hZ' := ZB.below (by assumption) hb'; clear hb')
    | (go_at_call 74; (with_reducible refine Calls.mono (num_any _ (by first | assumption | (unfold top64; omega)) _) ?_); rintro e w' ⟨rfl, hb'⟩; have hZ' := ZB.below (by assumption) hb'; clear hb')
    | (go_at_call 76; refine Calls.mono (text_any _ (by omega) _) ?_; rintro e w' ⟨rfl, hb'⟩; have hZ' := ZB.below (by assumption) hb'; clear hb')
    | (go_at_call 73; refine Calls.mono (framed_any _ HBL.out _) ?_; rintro e w' ⟨rfl, hb'⟩; have hZ' := ZB.below (by assumption) hb'; clear hb'))
  have hZE := hZ'
  go_wp2_with fail
  go_ret
  exact ⟨rfl, hZE.2.1⟩
theorem hard_any (h : Hd) (ht : h.term < top64) (hv : 0 ≤ h.vote ∧ h.vote < 1000) (hl : h.life < top64) (w : World) :
    Calls Tryz.prog 48 #[.agg #[.int .u64 h.term, .int .i64 h.vote, .int .u64 h.life]] w fun e w' => e = .returned (.string (str (hardRec h))) ∧ Below w.heap.size w w' := by
  obtain ⟨t, v, l⟩ := h
  obtain ⟨n, rfl⟩ := Int.eq_ofNat_of_zero_le hv.1
  exact hard_at t n l ht (by simp only at hv; omega) hl w
theorem ent_any (i : Nat) (e : En) (hi : i < top64) (ht : e.term < top64) (hm : mayEn e = true) (w : World) :
    Calls Tryz.prog 67 #[.int .u64 i, .agg #[.int .u64 e.term, .int .i64 e.kind, .string (str e.data)]] w fun x w' => x = .returned (.string (str (entRec i e))) ∧ Below w.heap.size w w' := by
  obtain ⟨t, v, d⟩ := e
  unfold mayEn at hm
  simp only [Bool.and_eq_true, decide_eq_true_eq] at hm
  obtain ⟨n, rfl⟩ := Int.eq_ofNat_of_zero_le (a := v) (by omega)
  exact ent_at i t n d hi ht (by omega) (by omega) w
end Go.Proofs.YtmehcogaopackaaGreat
/- The walks of may, members, last, numbers. -/
namespace Go.Proofs.YtmehcogaopackaaGreat
open Go.RowKit
set_option linter.unusedVariables false
set_option linter.unusedSimpArgs false
theorem may_en (e : En) (hd : e.data.length ≤ maxLen) (w : World) :
    Calls Tryz.prog 66 #[.agg #[.int .u64 e.term, .int .i64 e.kind, .string (str e.data)]] w fun x w' => x = .returned (.bool (mayEn e)) ∧ Below w.heap.size w w' := by
  obtain ⟨t, k, d⟩ := e
  have hz : (str d).size = d.length := str_size _
  unfold maxLen at hd
  have HM := hid (show mayEn ⟨t, k, d⟩ = (decide (1 ≤ k) && (decide (k ≤ 3) && decide (d.length ≤ 2048))) from rfl)
  simp only at hd ⊢
  generalize mayEn ⟨t, k, d⟩ = m at HM ⊢
  by_cases h1 : 1 ≤ k
  · by_cases h2 : k ≤ 3
    · by_cases h3 : d.length ≤ 2048
      · have h3' : (d.length : Int) ≤ 2048 := by omega
        go_enter Tryz.func66, Tryz.ntmps66
        go_wp2_with fail
        go_ret
        rw [HM.out]
        exact ⟨by simp [h1, h2, h3], (Below.refl _ _).alloc (Nat.le_refl _) _⟩
      · have h3' : ¬ (d.length : Int) ≤ 2048 := by omega
        go_enter Tryz.func66, Tryz.ntmps66
        go_wp2_with fail
        go_ret
        rw [HM.out]
        exact ⟨by simp [h1, h2, h3], (Below.refl _ _).alloc (Nat.le_refl _) _⟩
    · go_enter Tryz.func66, Tryz.ntmps66
      go_wp2_with fail
      go_ret
      rw [HM.out]
      exact ⟨by rw [decide_eq_true h1, decide_eq_false (show ¬ k ≤ 3 by omega)]; rfl, (Below.refl _ _).alloc (Nat.le_refl _) _⟩
  · go_enter Tryz.func66, Tryz.ntmps66
    go_wp2_with fail
    go_ret
    rw [HM.out]
    exact ⟨by rw [decide_eq_false (show ¬ 1 ≤ k by omega)]; rfl, (Below.refl _ _).alloc (Nat.le_refl _) _⟩
/-- may a list stand for members, behind the one ahead of it -/
def membersF : Option Int → List Int → Bool
  | _, [] => true
  | pv, n :: r => decide (1 ≤ n) && (decide (n ≤ 5) && ((match pv with | none => true | some p => decide (p < n)) && membersF (some n) r))
def members (l : List Int) : Bool := membersF none l
theorem membersF_in : ∀ (l : List Int) (pv : Option Int), membersF pv l = true → ∀ n ∈ l, 1 ≤ n ∧ n ≤ 5
  | [], _, _ => by simp
  | m :: r, pv, h => by
    intro n hn
    simp only [membersF, Bool.and_eq_true, decide_eq_true_eq] at h
    rcases List.mem_cons.1 hn with rfl | hn
    · exact ⟨h.1, h.2.1⟩
    · exact membersF_in r _ h.2.2.2 n hn
theorem membersF_len : ∀ (l : List Int) (p : Int), membersF (some p) l = true → (l.length : Int) + p ≤ 5 ∨ l = []
  | [], _, _ => .inr rfl
  | m :: r, p, h => by
    simp only [membersF, Bool.and_eq_true, decide_eq_true_eq] at h
    rcases membersF_len r m h.2.2.2 with h1 | rfl
    · left; simp only [List.length_cons]; omega
    · left; simp only [List.length_cons, List.length_nil]; omega
theorem members_len (l : List Int) (h : members l = true) : l.length ≤ 5 := by
  cases l with
  | nil => simp
  | cons m r =>
    unfold members at h
    simp only [membersF, Bool.and_eq_true, decide_eq_true_eq] at h
    rcases membersF_len r m h.2.2.2 with h1 | rfl
    · simp only [List.length_cons]; omega
    · simp
def pvOf (l : List Int) (k : Nat) : Option Int := if k = 0 then none else l[k - 1]?
set_option maxHeartbeats 1000000 in
theorem members_any (l : List Int) (v : Value) (D : List Nat) (w : World) (hv : Cells D w v l.length (intVals l)) (hn : l.length ≤ 1152921504606846976) :
    Calls Tryz.prog 99 #[v] w fun x w' => x = .returned (.bool (members l)) ∧ w = w' := by
  obtain ⟨a, cap, rfl⟩ := hv.form
  obtain ⟨_, hcap, hcell⟩ := hv.at
  have HX := hid hcell
  clear hcell hv
  go_enter Tryz.func99, Tryz.ntmps99
  go_wp2_with fail
  go_loop [3, 4, 7] (fun _ _ i => ∃ k : Nat, i = .int .i64 k ∧ k ≤ l.length ∧ Hid (members l = membersF (pvOf l k) (l.drop k))) (fun _ _ i => l.length - (intOf i).toNat)
  case atStart => exact ⟨0, rfl, Nat.zero_le _, rfl⟩
  case round =>
    obtain ⟨k, rfl, hk, HR⟩ := hrel
    by_cases hlt : k < l.length
    · obtain ⟨b, off, rfl, hcell⟩ := HX.out (by rw [intVals_len]; omega)
      have hx := hcell w (Below.refl _ _) _ _ (intVals_at l k hlt)
      have HR1 := hid (show members l = (decide (1 ≤ l[k]) && (decide (l[k] ≤ 5) && ((match pvOf l k with | none => true | some p => decide (p < l[k])) && membersF (some l[k]) (l.drop (k + 1))))) by rw [HR.out, List.drop_eq_getElem_cons hlt]; rfl)
      have HP := hid (show pvOf l (k + 1) = some l[k] by unfold pvOf; rw [if_neg (by omega), Nat.add_sub_cancel, List.getElem?_eq_getElem hlt])
      clear HR
      by_cases h1 : 1 ≤ l[k]
      · by_cases h2 : l[k] ≤ 5
        · cases k with
          | zero =>
            clear hcell
            rw [Nat.add_zero] at hx
            have HR2 := hid (show members l = membersF (pvOf l (0 + 1)) (l.drop (0 + 1)) by rw [HR1.out, HP.out]; simp [h1, h2, pvOf])
            clear HR1 HP
            generalize l[0] = n at *
            go_wp2_with fail
            go_round
            case rel => exact ⟨0 + 1, by go_num, by omega, HR2.out⟩
            case measure => simp [intOf]; omega
          | succ m =>
            have hlm : m < l.length := by omega
            have hp := hcell w (Below.refl _ _) _ _ (intVals_at l m hlm)
            have HV := hid (show pvOf l (m + 1) = some l[m] by unfold pvOf; rw [if_neg (by omega), Nat.add_sub_cancel, List.getElem?_eq_getElem hlm])
            clear hcell
            rw [HV.out] at HR1
            by_cases h3 : l[m] < l[m + 1]
            · have HR2 := hid (show members l = membersF (pvOf l (m + 1 + 1)) (l.drop (m + 1 + 1)) by rw [HR1.out, HP.out]; simp [h1, h2, h3])
              clear HR1 HP HV
              generalize l[m + 1] = n at *
              generalize l[m] = n0 at *
              go_wp2_with fail
              go_round
              case rel => exact ⟨m + 1 + 1, by go_num, by omega, HR2.out⟩
              case measure => simp [intOf]; omega
            · have HR2 := hid (show members l = false by rw [HR1.out]; simp [h1, h2, h3])
              clear HR1 HP HV
              generalize l[m + 1] = n at *
              generalize l[m] = n0 at *
              have h3' : n0 ≥ n := by omega
              go_wp2_with fail
              go_ret
              rw [HR2.out]
              exact ⟨rfl, rfl⟩
        · have HR2 := hid (show members l = false by rw [HR1.out]; simp [h1, h2])
          clear HR1 HP hcell
          generalize l[k] = n at *
          have h2' : n > 5 := by omega
          go_wp2_with fail
          go_ret
          rw [HR2.out]
          exact ⟨rfl, rfl⟩
      · have HR2 := hid (show members l = false by rw [HR1.out]; simp [h1])
        clear HR1 HP hcell
        generalize l[k] = n at *
        have h1' : n < 1 := by omega
        go_wp2_with fail
        go_ret
        rw [HR2.out]
        exact ⟨rfl, rfl⟩
    · obtain rfl : k = l.length := by omega
      have HR2 := hid (show members l = true by rw [HR.out, List.drop_length]; rfl)
      clear HR
      go_wp2_with fail
      go_ret
      rw [HR2.out]
      exact ⟨rfl, rfl⟩
/-- a log's values -/
def lgAgg (g : Lg) (vc vl : Value) : Value := .agg #[.int .u64 g.base, .int .u64 g.bterm, vc, vl]
theorem last_any (base bterm : Nat) (vc : Value) (a : Option Addr) (n cap : Nat) (w : World) (hb : base + n < 18446744073709551616) (hn : n ≤ 9223372036854775807) :
    Calls Tryz.prog 63 #[.agg #[.int .u64 base, .int .u64 bterm, vc, .slice a n cap]] w fun x w' => x = .returned (.int .u64 ((base + n : Nat) : Int)) ∧ Below w.heap.size w w' := by
  have hw1 : IntKind.u64.wrap (n : Int) = (n : Int) := by rw [IntKind.wrap_u64]; omega
  have hw2 : IntKind.u64.wrap ((base : Int) + (n : Int)) = ((base + n : Nat) : Int) := by rw [IntKind.wrap_u64]; omega
  go_enter Tryz.func63, Tryz.ntmps63
  go_wp2_with fail
  go_ret
  exact ⟨rfl, (Below.refl _ _).alloc (Nat.le_refl _) _⟩
theorem infoU64 : (Tryz.prog.info? 43).map (fun i => (i.zero, i.size, i.bytes)) = some (some (.int .u64 0), 1, 8) := by kernel_rfl
def u64Vals (ns : List Nat) : List Value := ns.map fun (n : Nat) => Value.int .u64 (n : Int)
theorem holdsNums_row {w : World} {B : Nat} {v : Value} {ns : List Nat} (h : w.ownsRow B 43 1 v ns.length (u64Vals ns)) (hl : ns.length ≤ 1000000) (hn : ∀ n ∈ ns, n < top64) : HoldsNums w v ns := by
  have hlen : (u64Vals ns).length = ns.length := by simp [u64Vals]
  rcases h.2 with ⟨rfl, hz⟩ | ⟨g, cap, cur, rfl, _, hg, hc, _, hs, ht⟩
  · have : ns = [] := List.eq_nil_of_length_eq_zero hz
    subst this
    exact ⟨none, 0, rfl, by simp, by simp, fun h => by simp at h⟩
  · refine ⟨_, _, rfl, by omega, hn, fun _ => ⟨g, 0, rfl, fun j hj => ?_⟩⟩
    have hj2 : (cur.toList.take (ns.length * 1))[j]? = some (.int .u64 (ns[j] : Int)) := by rw [ht]; simp [u64Vals, hj]
    rw [List.getElem?_take] at hj2
    split at hj2
    · refine cell_in hg _ _ ?_
      rw [Nat.zero_add, ← Array.getElem?_toList]
      exact hj2
    · cases hj2
set_option maxRecDepth 100000 in
set_option maxHeartbeats 2000000 in
theorem numbers_any (ns : List Nat) (v : Value) (D : List Nat) (w : World) (hv : Cells D w v ns.length (intVals (ns.map fun (n : Nat) => (n : Int)))) (hn : ns.length ≤ 1000) (hs : ∀ n ∈ ns, n < 1000000) :
    Calls Tryz.prog 75 #[v] w fun x w' => x = .returned (.string (str (nums ns))) ∧ Below w.heap.size w w' := by
  obtain ⟨i0, hi, hz0, hz1, hz2⟩ := info_parts infoU64
  obtain ⟨a, cap, rfl⟩ := hv.form
  obtain ⟨_, hcap, hcell⟩ := hv.at
  have HX := hid hcell
  have HS := hid hs
  clear hcell hv hs
  go_enter Tryz.func75, Tryz.ntmps75
  go_wp2_with fail
  go_loopw [3, 5, 8] (fun vo _ i wr => ∃ k : Nat, i = .int .i64 k ∧ k ≤ ns.length ∧ wr.ownsRow w.heap.size 43 1 vo k (u64Vals (ns.take k)) ∧ Below w.heap.size w wr) (fun _ _ i _ => ns.length - (intOf i).toNat)
  case atStart => exact ⟨0, rfl, Nat.zero_le _, World.ownsRow_nil _ _ _ _, Below.refl _ _⟩
  case round =>
    obtain ⟨k, rfl, hk, ho, hB⟩ := hrel
    by_cases hlt : k < ns.length
    · obtain ⟨b, off, rfl, hcell⟩ := HX.out (by rw [intVals_len, List.length_map]; omega)
      have hx := hcell wr hB _ _ (intVals_at (ns.map fun (n : Nat) => (n : Int)) k (by rw [List.length_map]; exact hlt))
      rw [List.getElem_map] at hx
      have hsm := HS.out _ (List.getElem_mem hlt)
      have HT := hid (show u64Vals (ns.take (k + 1)) = u64Vals (ns.take k) ++ [.int .u64 (ns[k] : Int)] by unfold u64Vals; rw [List.take_succ_eq_append_getElem hlt, List.map_append]; rfl)
      have hBs := hB.size
      clear hcell
      generalize ns[k] = n at *
      have hw1 : IntKind.u64.wrap (n : Int) = (n : Int) := by rw [IntKind.wrap_u64]; omega
      go_wp2_with (at_builtin; refine wpList_append_own _ rfl _ _ 148 rfl w.heap.size 43 i0 (.int .u64 0) 1 8 Tryz.underlying148 hi hz0 hz1 hz2 rfl (by decide) _ _ _ rfl (ho.alloc _) ⟨wr.heap.size, 0, none⟩ 1 1 [.int .u64 (n : Int)] rfl rfl (cell_one_new _ _ _) (by simp [Value.oneCell']) (by unfold maxLen; omega) (by omega) (by simp; omega) ?_; intro v' w1 hown' hgrow _)
      have hB1 := (hB.alloc hBs _).grown hgrow (by simp; omega) (fun j hj => (ho.lt j hj).1)
      go_roundw
      case rel => exact ⟨k + 1, by go_num, by omega, by rw [HT.out]; exact hown', hB1⟩
      case measure => simp [intOf]; omega
    · obtain rfl : k = ns.length := by omega
      have HH := hid (holdsNums_row (ns := ns) (by rw [List.take_length] at ho; exact ho) (by omega) (fun n hn => by have := HS.out n hn; unfold top64; omega))
      go_wp2_with fail
      refine Calls.mono (nums_any _ _ _ HH.out) ?_
      rintro e w2 ⟨rfl, hb2⟩
      go_wp2_with fail
      go_ret
      exact ⟨rfl, hB.trans (hb2.mono hB.size)⟩
end Go.Proofs.YtmehcogaopackaaGreat
/- DERIVED: THE SHELF's CONTRACTS AT THIS DUMP, IN PLAIN WORDS (tools/lay-plain.mjs out of 'TryzShelf.lean', which tools/lay-shelf.mjs wrote): THE SAME DECLARATIONS UNDER THE SAME NAMES: 'import', 'namespace', 'open', 'def', 'theorem' AND NOTHING ELSE: no command of the shelf's: FOR A HAND-IN. Each laying: the table of numbers ('.._ren') and one theorem, a field a fact of the dump's own or the kernel's comparison; each contract: ONE APPLICATION. -/
namespace Go.Proofs
open Go.Shelf
def Tryz.lays156_ren : Go.Shelf.Ren := ⟨fun | 156 => 77 | 165 => 107 | 166 => 108 | 169 => 109 | 240 => 125 | 241 => 126 | 276 => 133 | 277 => 134 | n => n, fun | 31 => 100 | 9 => 9 | 3 => 3 | 4 => 4 | 0 => 0 | 20 => 20 | 72 => 164 | 76 => 167 | 70 => 162 | 37 => 159 | 75 => 166 | 127 => 186 | 164 => 192 | 5 => 5 | 80 => 71 | n => n, fun | n => n⟩
theorem Tryz.lays156 : Go.Proofs.Lays.n156 Tryz.prog Tryz.lays156_ren := {
  mixed := by kernel_rfl
  f156 := Tryz.func77.trans (congrArg some (by kernel_rfl))
  f165 := Tryz.func107.trans (congrArg some (by kernel_rfl))
  f166 := Tryz.func108.trans (congrArg some (by kernel_rfl))
  f169 := Tryz.func109.trans (congrArg some (by kernel_rfl))
  f240 := Tryz.func125.trans (congrArg some (by kernel_rfl))
  f241 := Tryz.func126.trans (congrArg some (by kernel_rfl))
  f276 := Tryz.func133.trans (congrArg some (by kernel_rfl))
  f277 := Tryz.func134.trans (congrArg some (by kernel_rfl))
  t0 := Tryz.underlying0
  a0 := Tryz.isAgg0
  z0 := Tryz.sizeOf0
  v0 := Tryz.zeroValue0
  t3 := Tryz.underlying3
  a3 := Tryz.isAgg3
  z3 := Tryz.sizeOf3
  v3 := Tryz.zeroValue3
  t4 := Tryz.underlying4
  a4 := Tryz.isAgg4
  z4 := Tryz.sizeOf4
  v4 := Tryz.zeroValue4
  t9 := Tryz.underlying9
  a9 := Tryz.isAgg9
  z9 := Tryz.sizeOf9
  v9 := Tryz.zeroValue9
  t20 := Tryz.underlying20
  a20 := Tryz.isAgg20
  z20 := Tryz.sizeOf20
  v20 := Tryz.zeroValue20
  t31 := Tryz.underlying100
  a31 := Tryz.isAgg100
  z31 := Tryz.sizeOf100
  v31 := Tryz.zeroValue100
  t37 := Tryz.underlying159
  a37 := Tryz.isAgg159
  z37 := Tryz.sizeOf159
  v37 := Tryz.zeroValue159
  t70 := Tryz.underlying162
  a70 := Tryz.isAgg162
  z70 := Tryz.sizeOf162
  v70 := Tryz.zeroValue162
  t72 := Tryz.underlying164
  a72 := Tryz.isAgg164
  z72 := Tryz.sizeOf164
  v72 := Tryz.zeroValue164
  t75 := Tryz.underlying166
  a75 := Tryz.isAgg166
  z75 := Tryz.sizeOf166
  v75 := Tryz.zeroValue166
  t76 := Tryz.underlying167
  a76 := Tryz.isAgg167
  z76 := Tryz.sizeOf167
  v76 := Tryz.zeroValue167
  t127 := Tryz.underlying186
  a127 := Tryz.isAgg186
  z127 := Tryz.sizeOf186
  v127 := Tryz.zeroValue186
  t164 := Tryz.underlying192
  a164 := Tryz.isAgg192
  z164 := Tryz.sizeOf192
  v164 := Tryz.zeroValue192 }
theorem Tryz.Builder_Extra_156 : Builder.Extra Tryz.prog Tryz.lays156_ren := {
  sizeBuilder := by kernel_rfl
  liesBuilder := by kernel_rfl
  t5 := Tryz.underlying5
  a5 := Tryz.isAgg5
  z5 := Tryz.sizeOf5
  v5 := Tryz.zeroValue5
  infoByte := by kernel_rfl
  cellsByte := by kernel_rfl
  sizeByte := by kernel_rfl
  neB5 := by decide }
open Go.RowKit in
theorem Tryz.strings_Join (bk o c : Nat) (xs : List ByteArray) (sep : ByteArray) (w : World) (hcells : ∀ (j : Nat) x, xs[j]? = some x → w.cell? ⟨bk, o + j, none⟩ = some (.string x)) (hbk : bk < w.heap.size) (hN : xs.length ≤ 140737488355328) (hcap : xs.length ≤ c) (hlen : (Lib.join (xs.map (·.data.toList)) sep.data.toList).length ≤ 140737488355328) :
    Calls Tryz.prog 77 #[.slice (some ⟨bk, o, none⟩) xs.length c, .string sep] w fun e w' => e = .returned (.string ⟨(Lib.join (xs.map (·.data.toList)) sep.data.toList).toArray⟩) ∧ Below w.heap.size w w' := Any.strings_Join Tryz.lays156 Tryz.Builder_Extra_156 bk o c xs sep w hcells hbk hN hcap hlen
def Tryz.laysClone_int_ren : Go.Shelf.Ren := ⟨fun | 41 => 104 | n => n, fun | 22 => 46 | 23 => 3 | 4 => 4 | n => n, fun | n => n⟩
theorem Tryz.laysClone_int : Go.Proofs.SlLaysE0.n41 Tryz.prog Tryz.laysClone_int_ren := {
  mixed := by kernel_rfl
  f41 := ⟨Tryz.f104.name, by decide, Tryz.func104.trans (congrArg some (by kernel_rfl))⟩
  t4 := Tryz.underlying4
  a4 := Tryz.isAgg4
  z4 := Tryz.sizeOf4
  v4 := Tryz.zeroValue4
  t22 := Tryz.underlying46
  a22 := Tryz.isAgg46
  z22 := Tryz.sizeOf46
  v22 := Tryz.zeroValue46 }
open Go.RowKit Go.Lib in
theorem Tryz.slices_Clone_int (i0 : TypeInfo) (z : Value) (size bytes : Nat) (hi : Tryz.prog.info? 3 = some i0) (hz0 : i0.zero = some z) (hz1 : i0.size = size) (hz2 : i0.bytes = bytes) (hzs : z.cells.size = size) (hsz : 0 < size) (z23 : ∀ w, (Go.sizeOf 3).run Tryz.prog w = .ok size w) (b off n c : Nat) (news : List Value) (w : World) (hl : news.length = n * size) (hn : n ≤ maxLen) (hbig : n * bytes ≤ 140737488355328) (hc : ∀ j u, news[j]? = some u → w.cell? ⟨b, off + j, none⟩ = some u) (h1 : ∀ u ∈ news, u.oneCell' = true) :
    Calls Tryz.prog 104 #[.slice (some ⟨b, off, none⟩) n c] w fun e w' => ∃ v', e = .returned v' ∧ w'.ownsRow w.heap.size 3 size v' n news ∧ v' ≠ .slice none 0 0 ∧ Below w.heap.size w w' := AnyE.slices_Clone Tryz.laysClone_int i0 z size bytes hi hz0 hz1 hz2 hzs hsz z23 b off n c news w hl hn hbig hc h1
open Go.RowKit Go.Lib in
theorem Tryz.slices_Clone_int_nil (n c : Nat) (w : World) :
    Calls Tryz.prog 104 #[.slice none n c] w fun e w' => e = .returned (.slice none 0 0) ∧ w' = w := AnyE.slices_Clone_nil Tryz.laysClone_int n c w
def Tryz.laysClone_entry_ren : Go.Shelf.Ren := ⟨fun | 41 => 68 | n => n, fun | 22 => 47 | 23 => 116 | 4 => 4 | n => n, fun | n => n⟩
theorem Tryz.laysClone_entry : Go.Proofs.SlLaysE0.n41 Tryz.prog Tryz.laysClone_entry_ren := {
  mixed := by kernel_rfl
  f41 := ⟨Tryz.f68.name, by decide, Tryz.func68.trans (congrArg some (by kernel_rfl))⟩
  t4 := Tryz.underlying4
  a4 := Tryz.isAgg4
  z4 := Tryz.sizeOf4
  v4 := Tryz.zeroValue4
  t22 := Tryz.underlying47
  a22 := Tryz.isAgg47
  z22 := Tryz.sizeOf47
  v22 := Tryz.zeroValue47 }
open Go.RowKit Go.Lib in
theorem Tryz.slices_Clone_entry (i0 : TypeInfo) (z : Value) (size bytes : Nat) (hi : Tryz.prog.info? 116 = some i0) (hz0 : i0.zero = some z) (hz1 : i0.size = size) (hz2 : i0.bytes = bytes) (hzs : z.cells.size = size) (hsz : 0 < size) (z23 : ∀ w, (Go.sizeOf 116).run Tryz.prog w = .ok size w) (b off n c : Nat) (news : List Value) (w : World) (hl : news.length = n * size) (hn : n ≤ maxLen) (hbig : n * bytes ≤ 140737488355328) (hc : ∀ j u, news[j]? = some u → w.cell? ⟨b, off + j, none⟩ = some u) (h1 : ∀ u ∈ news, u.oneCell' = true) :
    Calls Tryz.prog 68 #[.slice (some ⟨b, off, none⟩) n c] w fun e w' => ∃ v', e = .returned v' ∧ w'.ownsRow w.heap.size 116 size v' n news ∧ v' ≠ .slice none 0 0 ∧ Below w.heap.size w w' := AnyE.slices_Clone Tryz.laysClone_entry i0 z size bytes hi hz0 hz1 hz2 hzs hsz z23 b off n c news w hl hn hbig hc h1
open Go.RowKit Go.Lib in
theorem Tryz.slices_Clone_entry_nil (n c : Nat) (w : World) :
    Calls Tryz.prog 68 #[.slice none n c] w fun e w' => e = .returned (.slice none 0 0) ∧ w' = w := AnyE.slices_Clone_nil Tryz.laysClone_entry n c w
def Tryz.cloneM_ren : Go.Shelf.Ren := ⟨fun | 5 => 33 | 7 => 71 | n => n, fun | 23 => 73 | 25 => 9 | 3 => 9 | 4 => 4 | 20 => 20 | n => n, fun | n => n⟩
theorem Tryz.cloneM : Go.Proofs.SlLaysW.n5 Tryz.prog Tryz.cloneM_ren := {
  mixed := by kernel_rfl
  f5 := ⟨Tryz.f33.name, by decide, Tryz.func33.trans (congrArg some (by kernel_rfl))⟩
  f7 := Tryz.func71.trans (congrArg some (by kernel_rfl))
  t4 := Tryz.underlying4
  a4 := Tryz.isAgg4
  z4 := Tryz.sizeOf4
  v4 := Tryz.zeroValue4
  t20 := Tryz.underlying20
  a20 := Tryz.isAgg20
  z20 := Tryz.sizeOf20
  v20 := Tryz.zeroValue20
  t23 := Tryz.underlying73
  a23 := Tryz.isAgg73
  z23 := Tryz.sizeOf73
  v23 := Tryz.zeroValue73 }
open Go.RowKit Go.Maps in
theorem Tryz.maps_Clone {H : Type} (k : TypeId) (R : Value → Option (DataW H × List MemPlace)) (b n : Nat) (D : DataW H) (w : World) (hown : w.ownsMap Tryz.prog k R b n D) :
    Calls Tryz.prog 33 #[.map (some b)] w fun e w' => e = .returned (.map (some w.heap.size)) ∧ w'.ownsMap Tryz.prog k R w.heap.size n D ∧ w'.ownsMap Tryz.prog k R b n D ∧ Below w.heap.size w w' := AnyW.maps_Clone_owns Tryz.cloneM k R b n D w hown
end Go.Proofs
/- The walks of the disk's small functions: Off, Used, may, spend, Fuse, Read, New. -/
namespace Go.Proofs.YtmehcogaopackaaGreat
open Go.RowKit Go.Maps Go.WideMaps
set_option linter.unusedVariables false
set_option linter.unusedSimpArgs false
theorem off_any {W : World} {p : Nat} {F : List Nat} {d : Ds} (h : DkAt W p F d) :
    Calls Tryz.prog 56 #[.pointer (some ⟨p, 0, none⟩)] W fun e w' => e = .returned (.bool d.off) ∧ W = w' := by
  obtain ⟨bs, bl, vp, xs, h1, _⟩ := h
  obtain ⟨cap, seen, lasts, pend, fused, left⟩ := d
  have c4 : W.cell? ⟨p, 4, none⟩ = some (.bool fused) := cell_in h1 4 _ rfl
  have c5 : W.cell? ⟨p, 5, none⟩ = some (.int .i64 left) := cell_in h1 5 _ rfl
  clear h1
  unfold Ds.off
  cases fused
  · go_enter Tryz.func56, Tryz.ntmps56
    go_wp2_with fail
    go_ret
    exact ⟨rfl, rfl⟩
  · by_cases hl : left ≤ 0
    · go_enter Tryz.func56, Tryz.ntmps56
      go_wp2_with fail
      go_ret
      exact ⟨by simp [hl], rfl⟩
    · go_enter Tryz.func56, Tryz.ntmps56
      go_wp2_with fail
      go_ret
      exact ⟨by simp [hl], rfl⟩
theorem spend_any {W : World} {p : Nat} {F : List Nat} {d : Ds} (h : DkAt W p F d) (hl : d.fused = true → 1 ≤ d.left ∧ d.left ≤ 9223372036854775807) :
    Calls Tryz.prog 34 #[.pointer (some ⟨p, 0, none⟩)] W fun e w' => e = .returned (.tuple #[]) ∧ DkAt w' p F d.spend ∧ Turn [p] W w' := by
  obtain ⟨cap, seen, lasts, pend, fused, left⟩ := d
  have H := hid h
  obtain ⟨bs, bl, vp, xs, h1, h2, h3, h4, h5, h6, h7, h8, h9, h10, h11⟩ := h
  have c4 : W.cell? ⟨p, 4, none⟩ = some (.bool fused) := cell_in h1 4 _ rfl
  have c5 : W.cell? ⟨p, 5, none⟩ = some (.int .i64 left) := cell_in h1 5 _ rfl
  have f5 := free_in h1 5
  have HS : Hid (fused = true → DkAt (W.setCell ⟨p, 5, none⟩ (.int .i64 (left - 1))) p F ⟨cap, seen, lasts, pend, fused, left - 1⟩) := fun _ => DkAt.mk_set h1 rfl h2 h3 h4 h5 h6 h7 h8 h9 h10 h11
  clear h1 h2 h3 h4 h5 h6 h8 h9 h10 h11
  unfold Ds.spend
  cases fused
  · clear hl
    go_enter Tryz.func34, Tryz.ntmps34
    go_wp2_with fail
    go_end0
    exact ⟨rfl, H.out, .refl _ _⟩
  · obtain ⟨hl1, hl2⟩ := hl rfl
    simp only at hl1 hl2
    clear hl
    go_enter Tryz.func34, Tryz.ntmps34
    go_wp2_with fail
    go_end0
    exact ⟨rfl, HS.out (by simp), .set _ _ _ _ (by simp)⟩
theorem fuse_any {W : World} {p : Nat} {F : List Nat} {d : Ds} (h : DkAt W p F d) (n : Int) :
    Calls Tryz.prog 19 #[.pointer (some ⟨p, 0, none⟩), .int .i64 n] W fun e w' => e = .returned (.tuple #[]) ∧ DkAt w' p F (d.fuse n) ∧ Turn [p] W w' := by
  obtain ⟨cap, seen, lasts, pend, fused, left⟩ := d
  obtain ⟨bs, bl, vp, xs, h1, h2, h3, h4, h5, h6, h7, h8, h9, h10, h11⟩ := h
  have c4 : W.cell? ⟨p, 4, none⟩ = some (.bool fused) := cell_in h1 4 _ rfl
  have c5 : W.cell? ⟨p, 5, none⟩ = some (.int .i64 left) := cell_in h1 5 _ rfl
  have f4 := free_in h1 4
  have f5 := free_in h1 5
  have HS := hid (DkAt.mk_set (d' := ⟨cap, seen, lasts, pend, decide (0 ≤ n), left⟩) h1 (o := 4) (v := .bool (decide (0 ≤ n))) rfl h2 h3 h4 h5 h6 h7 h8 h9 h10 h11)
  clear h1 h2 h3 h4 h5 h6 h8 h9 h10 h11
  unfold Ds.fuse
  go_enter Tryz.func19, Tryz.ntmps19
  go_wp2_with fail
  go_end0
  have h := HS.out
  obtain ⟨bs, bl, vp, xs, h1, h2, h3, h4, h5, h6, h7, h8, h9, h10, h11⟩ := h
  exact ⟨rfl, DkAt.mk_set h1 rfl h2 h3 h4 h5 h6 h7 h8 h9 h10 h11, (Turn.set W p 4 _ (by simp)).trans (Turn.set _ p 5 _ (by simp)) (fun b h => .inl h)⟩
theorem read_any {W : World} {p : Nat} {F : List Nat} {d : Ds} (h : DkAt W p F d) :
    Calls Tryz.prog 42 #[.pointer (some ⟨p, 0, none⟩), .string { data := #[108, 111, 103] }] W fun e w' => e = .returned (.tuple #[.string (str d.read.1), .int .i64 (d.read.2 : Nat)]) ∧ W = w' := by
  have HO := hid (off_any h)
  obtain ⟨cap, seen, lasts, pend, fused, left⟩ := d
  obtain ⟨bs, bl, vp, xs, h1, h2, _⟩ := h
  have c1 : W.cell? ⟨p, 1, none⟩ = some (.map (some bs)) := cell_in h1 1 _ rfl
  have hlk := h2.look_ok
  clear h1 h2
  have HD : Hid (Ds.read ⟨cap, seen, lasts, pend, fused, left⟩ = if Ds.off ⟨cap, seen, lasts, pend, fused, left⟩ then ([], 8) else match seen with | none => ([], 6) | some b => (b, 0)) := by show _ = _; rfl
  generalize Ds.off ⟨cap, seen, lasts, pend, fused, left⟩ = o at HO HD
  generalize Ds.read ⟨cap, seen, lasts, pend, fused, left⟩ = r at HD ⊢
  cases o
  · cases seen with
    | none =>
      simp only [Option.getD_none, Option.isSome_none] at hlk
      go_enter Tryz.func42, Tryz.ntmps42
      go_wp2_with fail
      refine Calls.mono HO.out ?_
      rintro e w1 ⟨rfl, rfl⟩
      go_wp2_with fail
      go_ret2
      rw [HD.out]
      exact ⟨rfl, rfl⟩
    | some b =>
      simp only [Option.getD_some, Option.isSome_some] at hlk
      go_enter Tryz.func42, Tryz.ntmps42
      go_wp2_with fail
      refine Calls.mono HO.out ?_
      rintro e w1 ⟨rfl, rfl⟩
      go_wp2_with fail
      go_ret2
      rw [HD.out]
      exact ⟨rfl, rfl⟩
  · clear hlk
    go_enter Tryz.func42, Tryz.ntmps42
    go_wp2_with fail
    refine Calls.mono HO.out ?_
    rintro e w1 ⟨rfl, rfl⟩
    go_wp2_with fail
    go_ret2
    rw [HD.out]
    exact ⟨rfl, rfl⟩
/-- what Used tells -/
theorem used_any {W : World} {p : Nat} {F : List Nat} {d : Ds} (h : DkAt W p F d) (hd : d.used ≤ 1099511627776) :
    Calls Tryz.prog 70 #[.pointer (some ⟨p, 0, none⟩)] W fun e w' => e = .returned (.int .i64 (d.used : Nat)) ∧ Below W.heap.size W w' := by
  obtain ⟨cap, seen, lasts, pend, fused, left⟩ := d
  obtain ⟨bs, bl, vp, xs, h1, h2, _⟩ := h
  have c1 : W.cell? ⟨p, 1, none⟩ = some (.map (some bs)) := cell_in h1 1 _ rfl
  have H2 := hid h2
  have hsz : lenO seen ≤ 1099511627776 := hd
  show Calls _ _ _ _ fun e w' => e = .returned (.int .i64 (lenO seen : Nat)) ∧ Below W.heap.size W w'
  have hlt := h2.lt
  clear h1 h2 hd
  go_enter Tryz.func70, Tryz.ntmps70
  go_wp2_with (at_range; refine wpList_range_own _ rfl _ 73 rfl 9 9 law9 Tryz.underlying73 _ bs 1 _ rfl H2.out ?_; intro w0 hrg0 hg0 hs0)
  first | go_frame | skip
  have hB0 : Below W.heap.size W w0 := (Below.refl _ _).grown hg0 (Nat.le_refl _) (fun j hj => by cases hj)
  have hlen : lenO seen = (match seen with | none => 0 | some b => b.length) := by cases seen <;> rfl
  go_loopw [3, 5] (fun vn _ wr => ∃ (left : Lit → Bool) (cnt : Nat), wr.ranges Tryz.prog 9 (plainElem Tryz.prog 9) bs W.heap.size 1 (DM seen) left cnt ∧ Below W.heap.size W wr ∧ ((vn = .int .i64 (0 : Nat) ∧ left = Maps.has (DM seen)) ∨ (vn = .int .i64 (lenO seen : Nat) ∧ ∀ kl, left kl = false)))
    (fun _ _ wr => wr.rangeLeft bs W.heap.size)
  case atStart => exact ⟨_, _, hrg0, hB0, .inl ⟨rfl, rfl⟩⟩
  case round =>
    obtain ⟨left', cnt, hrg, hB, hcase⟩ := hrel
    have HL : Hid (∀ b, seen = some b → lenO seen = b.length) := fun b hb => by rw [hb]; rfl
    have HN : Hid (lenO seen = 0 ∨ ∃ b, seen = some b) := by cases seen with | none => exact .inl rfl | some b => exact .inr ⟨b, rfl⟩
    clear hlen
    have hn1 : W.heap.size ≤ wr.heap.size := hB.size
    rcases hcase with ⟨rfl, rfl⟩ | ⟨rfl, hall⟩
    · have HN0 : Hid ((∀ kl, Maps.has (DM seen) kl = false) → lenO seen = 0) := fun hl => by
        rcases HN.out with h | ⟨b, hb⟩
        · exact h
        · have := hl (.string logB)
          rw [DM_has, hb] at this
          cases this
      have HN1 : Hid (∀ kl, (Maps.has (DM seen) kl && !kl.sameKey (.string logB)) = false) := fun kl => by
        cases hh : Maps.has (DM seen) kl
        · rfl
        · rw [DM_key seen kl hh]; rfl
      go_wp2_with (at_next; refine wpList_next_log _ rfl _ rfl bs W.heap.size seen _ _ rfl hrg ?_ ?_)
      · intro hl0
        have HV := hid (HN0.out hl0)
        clear hl0
        go_wp2_with fail
        go_ret
        rw [HV.out]
        exact ⟨rfl, hB⟩
      · intro c w1 cnt1 hsc hl1 hrg1 hlt1 hg1 hs1 hen
        have HV := hid (HL.out c hsc)
        have hcl : c.length ≤ 1099511627776 := by have := HV.out; omega
        have hzc : (str c).size = c.length := str_size _
        have hB1 := hB.grown hg1 hn1 (fun j hj => by cases hj; exact Nat.le_refl _)
        clear hsc hl1
        go_wp2_with fail
        go_roundw
        case rel => exact ⟨_, cnt1, hrg1, hB1, .inr ⟨by rw [HV.out], HN1.out⟩⟩
        case measure => rw [hrg1.left_eq, hrg.left_eq]; exact hlt1
    · have HA := hid hall
      clear hall
      go_wp2_with (at_next; refine wpList_next_log _ rfl _ rfl bs W.heap.size seen _ _ rfl hrg ?_ ?_)
      · intro hl0
        clear hl0
        go_wp2_with fail
        go_ret
        exact ⟨rfl, hB⟩
      · intro c w1 cnt1 hsc hl1 hrg1 hlt1 hg1 hs1 hen
        rw [HA.out] at hl1
        cases hl1
theorem DkAt.len {W : World} {p : Nat} {F : List Nat} {d : Ds} (h : DkAt W p F d) : lenO d.seen ≤ maxLen ∧ lenO d.lasts ≤ maxLen := by
  obtain ⟨bs, bl, vp, xs, h1, h2, h3, _⟩ := h
  exact ⟨h2.len, h3.len⟩
/-- what may tells -/
theorem may_any {W : World} {p : Nat} {F : List Nat} {d : Ds} (h : DkAt W p F d) (hd : d.used ≤ 1099511627776) (nm : Bytes) (hn0 : nm ≠ []) (hn1 : nm.length ≤ 80) (more : Int) (hm0 : -1099511627776 ≤ more) (hm1 : more ≤ 1099511627776) :
    Calls Tryz.prog 30 #[.pointer (some ⟨p, 0, none⟩), .string (str nm), .int .i64 more] W fun e w' => e = .returned (.int .i64 (d.may more : Nat)) ∧ Below W.heap.size W w' := by
  have HO := hid (off_any h)
  have HU : Hid (∀ W1 : World, Below W.heap.size W W1 → Calls Tryz.prog 70 #[.pointer (some ⟨p, 0, none⟩)] W1 fun e w' => e = .returned (.int .i64 (d.used : Nat)) ∧ Below W.heap.size W w') := fun W1 hb => (used_any (h.below hb) hd).mono fun _ _ ⟨e, g⟩ => ⟨e, hb.trans (g.mono hb.size)⟩
  have hpl := h.lt p h.mem
  have hzn : (str nm).size = nm.length := str_size _
  have hne : (str nm).toList = nm := by rw [ByteArray.toList_eq]; rfl
  have hcap : Hid (∃ bs bl vp xs, W.heap[p]? = some (.cells (dkCells d bs bl vp) 76) ∧ xs = ([] : List Value)) := by
    obtain ⟨bs, bl, vp, xs, h1, _⟩ := h
    exact ⟨bs, bl, vp, [], h1, rfl⟩
  obtain ⟨bs, bl, vp, _, h1, _⟩ := hcap.out
  have c0 : W.cell? ⟨p, 0, none⟩ = some (.int .i64 (d.cap : Nat)) := cell_in h1 0 _ rfl
  clear h1 hcap
  have hne1 : (str nm).toList.isEmpty = false := by rw [hne]; cases nm with | nil => exact absurd rfl hn0 | cons => rfl
  have HM : Hid (d.may more = if d.off then 8 else if (d.cap : Int) < (d.used : Int) + more then 7 else 0) := by show _ = _; rfl
  have HC := hid (fun (W1 : World) (hb : Below W.heap.size W W1) => show W1.cell? ⟨p, 0, none⟩ = some (.int .i64 (d.cap : Nat)) from (hb.cell (p := ⟨p, 0, none⟩) hpl).trans c0)
  clear h hne hn0
  generalize d.may more = m at HM ⊢
  generalize d.off = o at HO HM
  cases o
  · generalize d.used = u at *
    generalize d.cap = cap at *
    have hws : IntKind.i64.wrap ((u : Int) + more) = (u : Int) + more := IntWalk.i64_in _ (by omega)
    by_cases hc : (cap : Int) < (u : Int) + more
    · have hc1 : (u : Int) + more > (cap : Int) := hc
      rw [if_neg (by simp), if_pos hc] at HM
      go_enter Tryz.func30, Tryz.ntmps30
      go_wp2_with fail
      refine Calls.mono HO.out ?_
      rintro e w1 ⟨rfl, rfl⟩
      go_wp2_with fail
      go_region_held3 (fun W' => W'.cell? ⟨p, 0, none⟩ = some (.int .i64 (cap : Nat))) (first | exact c0 | exact HC.out _ hb')
        ((go_at_call 70; refine Calls.mono (HU.out _ (by exact (Below.refl _ _).drew)) ?_; rintro e w' ⟨rfl, hb'⟩))
      go_wp2_with fail
      go_ret
      rw [HM.out]
      exact ⟨rfl, hb'⟩
    · have hc1 : (u : Int) + more ≤ (cap : Int) := Int.not_lt.1 hc
      rw [if_neg (by simp), if_neg hc] at HM
      go_enter Tryz.func30, Tryz.ntmps30
      go_wp2_with fail
      refine Calls.mono HO.out ?_
      rintro e w1 ⟨rfl, rfl⟩
      go_wp2_with fail
      go_region_held3 (fun W' => W'.cell? ⟨p, 0, none⟩ = some (.int .i64 (cap : Nat))) (first | exact c0 | exact HC.out _ hb')
        ((go_at_call 70; refine Calls.mono (HU.out _ (by exact (Below.refl _ _).drew)) ?_; rintro e w' ⟨rfl, hb'⟩))
      go_wp2_with fail
      go_ret
      rw [HM.out]
      exact ⟨rfl, hb'⟩
  · go_enter Tryz.func30, Tryz.ntmps30
    go_wp2_with fail
    refine Calls.mono HO.out ?_
    rintro e w1 ⟨rfl, rfl⟩
    go_wp2_with fail
    go_ret
    rw [HM.out]
    exact ⟨rfl, Below.refl _ _⟩
end Go.Proofs.YtmehcogaopackaaGreat
