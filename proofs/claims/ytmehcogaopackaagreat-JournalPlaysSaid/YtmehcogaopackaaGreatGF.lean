/-
  seal.All: the bodies of all frames, where they end, what is wrong with what is left ('allOf'). (Several texts in one.)
-/
import Derived.BigQuiet
import Derived.Deep.QuietTactic
import Derived.RangeFuncBox
import Derived.RangeFuncCalls
import Derived.RangeFuncLeaves
import Derived.RangeFuncNested
import Derived.Shelf.Abstract
import Derived.WalkKit
import Derived.OwnWalkIn
import Derived.TacticsInMore
import Derived.LoopNIn
import Derived.LoopIn
import Derived.Maps.AppendAt
import Derived.RegionIn
import Derived.Test.YtmehcogaopackaaGreatGD
import Derived.Test.YtmehcogaopackaaGreatGA
/- The walks of seal.Cut and of the reference's Cut: both answer 'cutOf'. -/
namespace Go.Proofs.YtmehcogaopackaaGreat
open Go.RowKit

theorem conv_headN {P : Program} (w : World) (N n c : Nat) (hn : n ≤ 65536) (hc : c ≤ 4294967295) (t src e dst : TypeId) (hs : P.underlying src = some (.slice e)) (he : P.underlying e = some (.int .u8)) (hd : P.underlying dst = some .string) :
    (convert src dst (.slice (some ⟨w.heap.size, 0, none⟩) 8 8)).run P ((w.alloc (.cells #[.int .u8 ((n : Int) / 16777216), .int .u8 ((n : Int) / 65536), .int .u8 ((n : Int) / 256 % 256), .int .u8 ((n : Int) % 256), .int .u8 ((c : Int) / 16777216), .int .u8 ((c : Int) / 65536 % 256), .int .u8 ((c : Int) / 256 % 256), .int .u8 ((c : Int) % 256)] t)).drewN N) =
      .ok (.string (str (four n ++ four c))) ((w.alloc (.cells #[.int .u8 ((n : Int) / 16777216), .int .u8 ((n : Int) / 65536), .int .u8 ((n : Int) / 256 % 256), .int .u8 ((n : Int) % 256), .int .u8 ((c : Int) / 16777216), .int .u8 ((c : Int) / 65536 % 256), .int .u8 ((c : Int) / 256 % 256), .int .u8 ((c : Int) % 256)] t)).drewN N) := by
  rw [← head_str n c hn hc]
  exact run_convert_bytes_arg (World.drewN (w.alloc _) N) src e hs he _ 0 8 8 _ rfl (fun i hi => cell_new8 w _ _ _ _ _ _ _ _ t i hi) dst hd

/-- A REGION THAT DRAWS ITS ORDER, whose operations only read what no call writes, and whose callees leave what was there: walked once, in the order of the text; the class: the worlds that keep what lay below. -/
theorem wp_region_below {P : Program} {id : Nat} {Q : Exit → Act → World → Prop} {a : Act} {w : World} {l : List Oper} (hm : P.follows .mixedOrders = true) (hB : Region.lexB .any l.toArray = true)
    (h : wpQuiet P l.toArray (Below w.heap.size w) (fun a' => ∀ w', Below w.heap.size w w' → Q .normal a' w') l a) : (Code.region id l.toArray true).wp P Q a w :=
  wp_region_quiet (C := Below w.heap.size w) hm hB (Below.refl _ _).drew (by simpa using h)
theorem cast8 (n : Nat) : ((8 + n : Nat) : Int) = 8 + (n : Int) := by omega
theorem below_drewN {B : Nat} {a w : World} (h : Below B a w) (n : Nat) : Below B a (w.drewN n) := ⟨h.os, h.tape, h.output, h.size, h.block⟩

set_option maxHeartbeats 1000000 in
theorem cut_any (s : ByteArray) (w : World) (hs : s.size ≤ maxLen) :
    Calls Tryz.prog 79 #[.string s] w fun e w' =>
      e = .returned (.tuple #[.string (str (cutOf s.data.toList).1), .int .i64 (cutOf s.data.toList).2.1, .int .i64 (cutOf s.data.toList).2.2]) ∧ Below w.heap.size w w' := by
  unfold maxLen at hs
  by_cases h8 : s.size < 8
  · have HF := hid (cutOf_few (l := s.data.toList) (by rw [len_of]; omega))
    go_enter Tryz.func79, Tryz.ntmps79
    go_wp2_with fail
    go_ret3
    rw [HF.out]
    exact ⟨rfl, Below.refl _ _⟩
  have h0 : 0 < s.size := by omega
  have h1 : (1 : Int) < (s.size : Int) := by omega
  have h2 : (2 : Int) < (s.size : Int) := by omega
  have h3 : (3 : Int) < (s.size : Int) := by omega
  have h4 : 4 ≤ s.size := by omega
  have HN := hid (num4_of s h4)
  by_cases hbig : 65536 < num4 s.data.toList
  · have HF := hid (cutOf_long (l := s.data.toList) (by rw [len_of]; omega) hbig)
    go_enter Tryz.func79, Tryz.ntmps79
    go_wp2_with fail
    go_quiet (fail)
    rw [num4_prog, HN.out]
    generalize num4 s.data.toList = n at hbig
    go_wp2_with fail
    go_ret3
    rw [HF.out]
    exact ⟨rfl, below_drewN (Below.refl _ _) _⟩
  by_cases hend : s.size < 8 + num4 s.data.toList
  · have HF := hid (cutOf_short (l := s.data.toList) (by rw [len_of]; omega) hbig (by rw [len_of]; omega))
    go_enter Tryz.func79, Tryz.ntmps79
    go_wp2_with fail
    go_quiet (fail)
    rw [num4_prog, HN.out]
    generalize num4 s.data.toList = n at hbig hend
    go_wp2_with fail
    go_ret3
    rw [HF.out]
    exact ⟨rfl, below_drewN (Below.refl _ _) _⟩
  have hc := crc_le ((s.data.toList.drop 8).take (num4 s.data.toList))
  have HE := hid (head_eq_iff s.data.toList (four (crc ((s.data.toList.drop 8).take (num4 s.data.toList)))) (by rw [len_of]; omega))
  by_cases hq : four (crc ((s.data.toList.drop 8).take (num4 s.data.toList))) = (s.data.toList.drop 4).take 4
  · have HF := hid (cutOf_ok (l := s.data.toList) (by rw [len_of]; omega) hbig (by rw [len_of]; omega) hq)
    have HQ := hid (show ((str (four (num4 s.data.toList) ++ four (crc ((s.data.toList.drop 8).take (num4 s.data.toList))))).toList == (s.extract 0 8).toList) = true by
      rw [extract_str, str_beq, List.drop_zero, Nat.sub_zero, beq_iff_eq]
      exact HE.out.2 hq)
    clear hq HE
    go_enter Tryz.func79, Tryz.ntmps79
    go_wp2_with fail
    go_quiet (fail)
    rw [num4_prog, HN.out]
    generalize num4 s.data.toList = n at *
    go_wp2_with fail
    refine (sum_any _ _ (by rw [ByteArray.size_extract]; unfold maxLen; omega)).mono ?_
    rintro e w1 ⟨rfl, rfl⟩
    rw [Lib.extract_data, Nat.add_sub_cancel_left]
    generalize crc (List.take n (List.drop 8 s.data.toList)) = c at *
    go_wp2_with fail
    refine (head_any _ _ _ (by omega) (by omega) (by omega) (by omega)).mono ?_
    rintro e w2 ⟨rfl, hb⟩
    have hcv := fun N => conv_headN (P := Tryz.prog) w2 N n c (by omega) (by omega) 170 159 5 9 Tryz.underlying159 Tryz.underlying5 Tryz.underlying9
    have hq := HQ.out
    have h8' : (8 : Int) ≤ (s.size : Int) := by omega
    go_wp2_with fail
    go_quiet (fail)
    go_wp2_with fail
    go_ret3
    rw [HF.out, cast8]
    have hx : s.extract 8 (8 + n) = str (List.take n (List.drop 8 s.data.toList)) := by rw [extract_str, Nat.add_sub_cancel_left]
    rw [← hx]
    exact ⟨rfl, below_drewN (((below_drewN (Below.refl _ _) _).trans (hb.mono (Nat.le_refl _))).alloc hb.size _) _⟩
  · have HF := hid (cutOf_sum (l := s.data.toList) (by rw [len_of]; omega) hbig (by rw [len_of]; omega) hq)
    have HQ := hid (show ((str (four (num4 s.data.toList) ++ four (crc ((s.data.toList.drop 8).take (num4 s.data.toList))))).toList == (s.extract 0 8).toList) = false by
      rw [extract_str, str_beq, List.drop_zero, Nat.sub_zero, beq_eq_false_iff_ne]
      exact fun e => hq (HE.out.1 e))
    clear hq HE
    go_enter Tryz.func79, Tryz.ntmps79
    go_wp2_with fail
    go_quiet (fail)
    rw [num4_prog, HN.out]
    generalize num4 s.data.toList = n at *
    go_wp2_with fail
    refine (sum_any _ _ (by rw [ByteArray.size_extract]; unfold maxLen; omega)).mono ?_
    rintro e w1 ⟨rfl, rfl⟩
    rw [Lib.extract_data, Nat.add_sub_cancel_left]
    generalize crc (List.take n (List.drop 8 s.data.toList)) = c at *
    go_wp2_with fail
    refine (head_any _ _ _ (by omega) (by omega) (by omega) (by omega)).mono ?_
    rintro e w2 ⟨rfl, hb⟩
    have hcv := fun N => conv_headN (P := Tryz.prog) w2 N n c (by omega) (by omega) 170 159 5 9 Tryz.underlying159 Tryz.underlying5 Tryz.underlying9
    have hq := HQ.out
    have h8' : (8 : Int) ≤ (s.size : Int) := by omega
    go_wp2_with fail
    go_quiet (fail)
    go_wp2_with fail
    go_ret3
    rw [HF.out]
    exact ⟨rfl, below_drewN (((below_drewN (Below.refl _ _) _).trans (hb.mono (Nat.le_refl _))).alloc hb.size _) _⟩
end Go.Proofs.YtmehcogaopackaaGreat
/- PLAIN: the frames of bytes, one behind the other: where each begins, its body, and where they end. -/
namespace Go.Proofs.YtmehcogaopackaaGreat

/-- the frames from place p on, and where they end -/
def scanF (l : Bytes) : Nat → Nat → List (Nat × Bytes) × Nat
  | 0, p => ([], p)
  | f + 1, p =>
    if p < l.length ∧ (cutOf (l.drop p)).2.2 = 0 then
      ((p, (cutOf (l.drop p)).1) :: (scanF l f (p + (cutOf (l.drop p)).2.1)).1, (scanF l f (p + (cutOf (l.drop p)).2.1)).2)
    else ([], p)
def scan (l : Bytes) (p : Nat) : List (Nat × Bytes) × Nat := scanF l (l.length + 1 - p) p

theorem cutOf_cases (l : Bytes) : (∃ e, cutOf l = ([], 0, e) ∧ e ≠ 0 ∧ e ≤ 5) ∨ (cutOf l = ((l.drop 8).take (num4 l), 8 + num4 l, 0) ∧ 8 + num4 l ≤ l.length ∧ num4 l ≤ 65536 ∧ four (crc ((l.drop 8).take (num4 l))) = (l.drop 4).take 4) := by
  by_cases h1 : l.length < 8
  · exact .inl ⟨3, cutOf_few h1, by omega, by omega⟩
  by_cases h2 : 65536 < num4 l
  · exact .inl ⟨2, cutOf_long h1 h2, by omega, by omega⟩
  by_cases h3 : l.length < 8 + num4 l
  · exact .inl ⟨3, cutOf_short h1 h2 h3, by omega, by omega⟩
  by_cases h4 : four (crc ((l.drop 8).take (num4 l))) = (l.drop 4).take 4
  · exact .inr ⟨cutOf_ok h1 h2 h3 h4, by omega, by omega, h4⟩
  · exact .inl ⟨5, cutOf_sum h1 h2 h3 h4, by omega, by omega⟩
theorem cutOf_fine {l : Bytes} (h : (cutOf l).2.2 = 0) : (cutOf l).2.1 = 8 + (cutOf l).1.length ∧ (cutOf l).2.1 ≤ l.length ∧ (cutOf l).1.length ≤ 65536 := by
  rcases cutOf_cases l with ⟨e, he, h0, _⟩ | ⟨he, h8, hb, _⟩
  · rw [he] at h; exact absurd h h0
  · rw [he]
    have : ((l.drop 8).take (num4 l)).length = num4 l := by rw [List.length_take, List.length_drop]; omega
    refine ⟨?_, h8, ?_⟩
    · show 8 + num4 l = 8 + ((l.drop 8).take (num4 l)).length
      rw [this]
    · show ((l.drop 8).take (num4 l)).length ≤ 65536
      omega
theorem cutOf_err {l : Bytes} (h : (cutOf l).2.2 ≠ 0) : cutOf l = ([], 0, (cutOf l).2.2) := by
  rcases cutOf_cases l with ⟨e, he, _, _⟩ | ⟨he, _, _, _⟩
  · rw [he]
  · rw [he] at h; exact absurd rfl h
theorem cutOf_err_le (l : Bytes) : (cutOf l).2.2 ≤ 5 := by
  rcases cutOf_cases l with ⟨e, he, _, h5⟩ | ⟨he, _, _, _⟩
  · rw [he]; exact h5
  · rw [he]; exact Nat.zero_le _

theorem scanF_enough (l : Bytes) : ∀ (f g p : Nat), l.length < f + p → l.length < g + p → scanF l f p = scanF l g p
  | 0, 0, _, _, _ => rfl
  | 0, g + 1, p, h, _ => by
    have : ¬ (p < l.length ∧ (cutOf (l.drop p)).2.2 = 0) := fun c => by omega
    simp [scanF, this]
  | f + 1, 0, p, _, h => by
    have : ¬ (p < l.length ∧ (cutOf (l.drop p)).2.2 = 0) := fun c => by omega
    simp [scanF, this]
  | f + 1, g + 1, p, h1, h2 => by
    by_cases hc : p < l.length ∧ (cutOf (l.drop p)).2.2 = 0
    · have hf := (cutOf_fine hc.2).1
      have := scanF_enough l f g (p + (cutOf (l.drop p)).2.1) (by omega) (by omega)
      simp only [scanF]
      rw [if_pos hc, if_pos hc, this]
    · simp only [scanF]
      rw [if_neg hc, if_neg hc]
theorem scan_go {l : Bytes} {p : Nat} (h : p < l.length) (h0 : (cutOf (l.drop p)).2.2 = 0) :
    scan l p = ((p, (cutOf (l.drop p)).1) :: (scan l (p + (cutOf (l.drop p)).2.1)).1, (scan l (p + (cutOf (l.drop p)).2.1)).2) := by
  have hf := (cutOf_fine h0).1
  unfold scan
  rw [scanF_enough l (l.length + 1 - (p + (cutOf (l.drop p)).2.1)) (l.length - p) (p + (cutOf (l.drop p)).2.1) (by omega) (by omega)]
  have : l.length + 1 - p = (l.length - p) + 1 := by omega
  rw [this]
  simp only [scanF]
  rw [if_pos ⟨h, h0⟩]
theorem scan_stop {l : Bytes} {p : Nat} (h : ¬ (p < l.length ∧ (cutOf (l.drop p)).2.2 = 0)) : scan l p = ([], p) := by
  unfold scan
  cases l.length + 1 - p with
  | zero => rfl
  | succ n => simp only [scanF]; rw [if_neg h]

/-- where the last of the frames ends -/
def endOf (fs : List (Nat × Bytes)) : Nat := match fs.getLast? with | none => 0 | some (p, b) => p + 8 + b.length
theorem endOf_nil : endOf [] = 0 := rfl
theorem endOf_snoc (fs : List (Nat × Bytes)) (x : Nat × Bytes) : endOf (fs ++ [x]) = x.1 + 8 + x.2.length := by simp [endOf]
theorem scan_place {l : Bytes} : ∀ (k p : Nat), l.length - p = k → p ≤ l.length → (scan l p).2 ≤ l.length ∧ p ≤ (scan l p).2 ∧
    ((scan l p).1 = [] → (scan l p).2 = p) ∧ ((scan l p).1 ≠ [] → endOf (scan l p).1 = (scan l p).2) ∧
    (¬ ((scan l p).2 < l.length ∧ (cutOf (l.drop (scan l p).2)).2.2 = 0)) ∧ 8 * (scan l p).1.length ≤ (scan l p).2 - p := by
  intro k
  induction k using Nat.strongRecOn with
  | ind k ih =>
    intro p hk hp
    by_cases hc : p < l.length ∧ (cutOf (l.drop p)).2.2 = 0
    · have hf := cutOf_fine hc.2
      have hl : (l.drop p).length = l.length - p := List.length_drop
      have h1 := ih (l.length - (p + (cutOf (l.drop p)).2.1)) (by omega) (p + (cutOf (l.drop p)).2.1) rfl (by omega)
      rw [scan_go hc.1 hc.2]
      obtain ⟨a, b, c, d, e, g⟩ := h1
      dsimp only
      refine ⟨a, by omega, (fun x => by cases x), ?_, e, by simp only [List.length_cons]; omega⟩
      intro _
      by_cases hn : (scan l (p + (cutOf (l.drop p)).2.1)).1 = []
      · rw [hn, c hn]
        simp [endOf]
        omega
      · have := d hn
        rw [← this]
        unfold endOf
        rw [List.getLast?_cons]
        cases hg : (scan l (p + (cutOf (l.drop p)).2.1)).1.getLast? with
        | none => exact absurd (List.getLast?_eq_none_iff.1 hg) hn
        | some y => simp
    · rw [scan_stop hc]
      exact ⟨hp, Nat.le_refl _, fun _ => rfl, fun x => absurd rfl x, hc, by simp⟩

/-- what All answers: the bodies, where they end, the error's number -/
def allOf (l : Bytes) : List Bytes × Nat × Nat :=
  ((scan l 0).1.map (·.2), (scan l 0).2, if (scan l 0).2 = l.length then 0 else (cutOf (l.drop (scan l 0).2)).2.2)
theorem allOf_end (l : Bytes) : endOf (scan l 0).1 = (scan l 0).2 := by
  obtain ⟨_, _, c, d, _, _⟩ := scan_place (l := l) l.length 0 (by omega) (Nat.zero_le _)
  by_cases h : (scan l 0).1 = []
  · rw [h, c h]; rfl
  · exact d h
theorem allOf_le (l : Bytes) : (scan l 0).2 ≤ l.length := (scan_place (l := l) l.length 0 (by omega) (Nat.zero_le _)).1
theorem allOf_count (l : Bytes) : 8 * (scan l 0).1.length ≤ l.length := by
  obtain ⟨a, _, _, _, _, g⟩ := scan_place (l := l) l.length 0 (by omega) (Nat.zero_le _)
  omega
end Go.Proofs.YtmehcogaopackaaGreat
/- seal.Each: its closure's contract: for every loop body that keeps the captured string: all frames, in their order, each with its place. -/
namespace Go.Proofs.YtmehcogaopackaaGreat
open Go.RowKit Go.Shelf

attribute [local go_sem] Oper.semAt_some

/-- what a round keeps: below n₀ all lies as it lay, and so does block Bn -/
def KeepsBox (n₀ Bn : Nat) (W W' : World) : Prop := Below n₀ W W' ∧ W'.heap[Bn]? = W.heap[Bn]?
theorem keepsBox_t {n₀ Bn : Nat} {A B C : World} (h : KeepsBox n₀ Bn A B) (k : KeepsBox n₀ Bn B C) : KeepsBox n₀ Bn A C := ⟨h.1.trans k.1, k.2.trans h.2⟩
theorem keepsBox_b {n₀ Bn : Nat} {w : World} (hn : n₀ ≤ w.heap.size) (hB : Bn < w.heap.size) (W : World) (l : Nat) (o o' : Obj) (hl : w.heap.size ≤ l) (h : W.heap[l]? = some o) (hc : o.isCells = false) (hw : o.isWalk = false) : KeepsBox n₀ Bn W (W.putObj l o') :=
  ⟨belowK_b hn W l o o' hl h hc hw, World.putObj_heap_other (by omega)⟩

/-- Cut of what stands from place p on -/
theorem cut_at (s : ByteArray) (hs : s.size ≤ maxLen) (p : Nat) (w : World) : Calls Tryz.prog 79 #[.string (s.extract p s.size)] w fun e w' =>
    e = .returned (.tuple #[.string (str (cutOf (s.data.toList.drop p)).1), .int .i64 (cutOf (s.data.toList.drop p)).2.1, .int .i64 (cutOf (s.data.toList.drop p)).2.2]) ∧ Below w.heap.size w w' := by
  have hx : (s.extract p s.size).data.toList = s.data.toList.drop p := by
    rw [Lib.extract_data, List.take_of_length_le (by rw [List.length_drop, len_of]; omega)]
  have h := cut_any (s.extract p s.size) w (by rw [ByteArray.size_extract]; unfold maxLen at *; omega)
  rw [hx] at h
  exact h
theorem below_grown {A B : World} (h : Below A.heap.size A B) : A.grownBy B none := ⟨h.os, h.tape, h.output, h.size, fun k hk _ => h.block k hk⟩

abbrev encFrame (x : Nat × Bytes) : Array Value := #[.int .i64 x.1, .string (str x.2)]

set_option maxRecDepth 100000 in
set_option maxHeartbeats 2000000 in
theorem each1_in (n : Nat) (hn : 1 ≤ n) (l Bn n₀ : Nat) (s : ByteArray) (hs : s.size ≤ maxLen) (J Jx : List (Nat × Bytes) → World → Prop) (W : World)
    (hJ : AbidesFrom W.heap.size J) (_hJx : AbidesFrom W.heap.size Jx)
    (hY : ∀ pre x W1, J pre W1 → pre.length < (scan s.data.toList 0).1.length → YieldAt Fence.wide (n - 1) Tryz.prog l (encFrame x) W1 fun e W' =>
      (e = .returned (.bool true) ∧ J (pre ++ [x]) W' ∧ KeepsBox n₀ Bn W1 W') ∨ (e = .returned (.bool false) ∧ Jx (pre ++ [x]) W'))
    (hBn : W.cell? ⟨Bn, 0, none⟩ = some (.string s)) (h0 : J [] W) :
    CallsIn Fence.wide n Tryz.prog 110 #[.func (.yield l) #[] #[], .pointer (some ⟨Bn, 0, none⟩)] W fun e W' => (∃ v, e = .returned v) ∧
      ((∃ ys, ys = (scan s.data.toList 0).1 ∧ J ys W') ∨ (∃ pre, pre <+: (scan s.data.toList 0).1 ∧ Jx pre W')) := by
  have hs' := hs
  unfold maxLen at hs
  refine callsIn_of_wp Tryz.func110 rfl trivial ?_ rfl
  simp only [Tryz.ntmps110, List.size_toArray, List.length_cons, List.length_nil, Nat.reduceAdd, Nat.reduceSub, Array.replicate_succ, Array.replicate_zero, List.push_toArray, List.append_toArray, List.nil_append, List.cons_append]
  gi_wp2
  gi_loopw [3] (fun p wr => ∃ (pre : List (Nat × Bytes)) (k : Nat), p = .int .i64 k ∧ k ≤ s.size ∧ (scan s.data.toList 0).1 = pre ++ (scan s.data.toList k).1 ∧ wr.cell? ⟨Bn, 0, none⟩ = some (.string s) ∧ J pre wr)
    (fun p _ => s.size - (intOf p).toNat)
  case atStart =>
    exact ⟨[], 0, rfl, Nat.zero_le _, rfl, hBn, h0⟩
  case round =>
    obtain ⟨pre, k, rfl, hk, hx, hb, hJs⟩ := hrel
    have HX := hid hx
    clear hx
    by_cases hlt : k < s.size
    · by_cases hc : (cutOf (s.data.toList.drop k)).2.2 = 0
      · have hn1 : 8 ≤ (cutOf (s.data.toList.drop k)).2.1 := by have := (cutOf_fine hc).1; omega
        have hn2 : k + (cutOf (s.data.toList.drop k)).2.1 ≤ s.size := by have := (cutOf_fine hc).2.1; rw [List.length_drop, len_of] at this; omega
        have HG := hid (scan_go (l := s.data.toList) (p := k) (by rw [len_of]; exact hlt) hc)
        gi_wp2_with (refine ⟨trivial, ?_⟩; gi_at_call 79; refine (callsIn_wide.2 (cut_at s hs' k _)).mono ?_; rintro e w2 ⟨rfl, hb2⟩)
        · have hlenx : pre.length < (scan s.data.toList 0).1.length := by rw [HX.out, HG.out]; simp
          obtain ⟨fn, tmps, assign, body, hy, hR⟩ := hY pre (k, (cutOf (s.data.toList.drop k)).1) w2 (hJ _ _ _ none hJs (below_grown hb2) (fun r e => by cases e)) hlenx
          dsimp only [encFrame] at hy
          have hb2' : w2.cell? ⟨Bn, 0, none⟩ = some (.string s) := (hb2.cell (p := ⟨Bn, 0, none⟩) (World.block_lt_of_cell? _ _ hb)).trans hb
          rw [hy]
          gi_wp2
          refine hR.mono ?_
          rintro e W3 (⟨rfl, hJ3, hk3⟩ | ⟨rfl, hJx3⟩)
          · have hb3 : W3.cell? ⟨Bn, 0, none⟩ = some (.string s) := (World.cell?_of_block hk3.2).trans hb2'
            gi_wp2
            go_roundw
            case rel => exact ⟨pre ++ [(k, (cutOf (s.data.toList.drop k)).1)], k + (cutOf (s.data.toList.drop k)).2.1, by go_num, hn2, by rw [HX.out, HG.out]; simp, hb3, hJ3⟩
            case measure => simp [intOf]; omega
          · gi_wp2
            refine bodyPost_ret (results_none rfl _ _ _) rfl ?_
            exact ⟨⟨_, rfl⟩, .inr ⟨pre ++ [(k, (cutOf (s.data.toList.drop k)).1)], ⟨(scan s.data.toList (k + (cutOf (s.data.toList.drop k)).2.1)).1, by rw [HX.out, HG.out]; simp⟩, hJx3⟩⟩
      · have hne : ((((cutOf (s.data.toList.drop k)).2.2 : Nat) : Int) != 0) = true := by rw [bne_iff_ne]; omega
        have HG := hid (scan_stop (l := s.data.toList) (p := k) (fun c => hc c.2))
        clear hc
        gi_wp2_with (refine ⟨trivial, ?_⟩; gi_at_call 79; refine (callsIn_wide.2 (cut_at s hs' k _)).mono ?_; rintro e w2 ⟨rfl, hb2⟩)
        refine ⟨fun _ h => (by cases h), ?_⟩
        gi_wp2
        refine bodyPost_ret (results_none rfl _ _ _) rfl ?_
        exact ⟨⟨_, rfl⟩, .inl ⟨pre, by rw [HX.out, HG.out]; simp, hJ _ _ _ none hJs (below_grown hb2) (fun r e => by cases e)⟩⟩
    · have HG := hid (scan_stop (l := s.data.toList) (p := k) (fun c => hlt (by have := c.1; rw [len_of] at this; exact this)))
      gi_wp2
      go_end0
      exact ⟨⟨_, rfl⟩, .inl ⟨pre, by rw [HX.out, HG.out]; simp, hJs⟩⟩

/-- seal.Each(s): the string is boxed; the function value captures the box. -/
theorem each_in (n : Nat) (s : ByteArray) (w : World) :
    CallsIn Fence.wide n Tryz.prog 78 #[.string s] w fun e w' => e = .returned (.func (.func 110) #[] #[.pointer (some ⟨w.heap.size, 0, none⟩)]) ∧ w' = w.alloc (.cells #[.string s] 9) := by
  refine callsIn_of_wp Tryz.func78 rfl trivial ?_ rfl
  simp only [Tryz.ntmps78, List.size_toArray, List.length_cons, List.length_nil, Nat.reduceAdd, Nat.reduceSub, Array.replicate_succ, Array.replicate_zero, List.push_toArray, List.append_toArray, List.nil_append, List.cons_append]
  gi_wp2
  go_ret
  exact ⟨rfl, rfl⟩

/-- what it hands back: all frames, or a beginning of them where a round has said 'no more' -/
theorem each_stops (n : Nat) (hn : 1 ≤ n) (Bn n₀ : Nat) (s : ByteArray) (hs : s.size ≤ maxLen) (w : World) (hBn : Bn < w.heap.size)
    (hc : w.cell? ⟨Bn, 0, none⟩ = some (.string s)) :
    SeqStopsK Fence.wide n Tryz.prog 110 #[.pointer (some ⟨Bn, 0, none⟩)] encFrame (KeepsBox n₀ Bn) (fun ys => ys = (scan s.data.toList 0).1) (fun pre => pre <+: (scan s.data.toList 0).1) (scan s.data.toList 0).1.length w := fun l J Jx W hW hJ hJx hY h0 =>
  each1_in n hn l Bn n₀ s hs J Jx W hJ hJx hY ((hW.cell (p := ⟨Bn, 0, none⟩) hBn).trans hc) h0
end Go.Proofs.YtmehcogaopackaaGreat
/- seal.All: the bodies of all frames, where they end, what is wrong with what is left ('allOf'). -/
namespace Go.Proofs.YtmehcogaopackaaGreat
open Go.RowKit Go.Shelf

attribute [local go_sem] Oper.semAt_some

theorem infoString : (Tryz.prog.info? 9).map (fun i => (i.zero, i.size, i.bytes)) = some (some (.string { data := #[] }), 1, 16) := by kernel_rfl

/-- what the box 'end' holds -/
def endV (fs : List (Nat × Bytes)) : Int := match fs.getLast? with | none => 0 | some x => wrap64 (wrap64 ((x.1 : Int) + 8) + (x.2.length : Int))
theorem endV_snoc (fs : List (Nat × Bytes)) (x : Nat × Bytes) : endV (fs ++ [x]) = wrap64 (wrap64 ((x.1 : Int) + 8) + (x.2.length : Int)) := by simp [endV]
theorem endV_is (fs : List (Nat × Bytes)) (h : endOf fs ≤ 9223372036854775807) : endV fs = (endOf fs : Int) := by
  unfold endV endOf at *
  cases hg : fs.getLast? with
  | none => rfl
  | some x =>
    rw [hg] at h
    dsimp only at h ⊢
    rw [IntWalk.wrap64_in ((x.1 : Int) + 8) ⟨by omega, by omega⟩, IntWalk.wrap64_in _ ⟨by omega, by omega⟩]
    omega

theorem ownsRow_mono {w : World} {base base' : Nat} {e : TypeId} {size : Nat} {v : Value} {n : Nat} {xs : List Value} (h : w.ownsRow base e size v n xs) (hb : base' ≤ base) : w.ownsRow base' e size v n xs := by
  obtain ⟨h1, h2⟩ := h
  refine ⟨h1, ?_⟩
  rcases h2 with h2 | ⟨g, cap, cur, hv, hg, r⟩
  · exact .inl h2
  · exact .inr ⟨g, cap, cur, hv, Nat.le_trans hb hg, r⟩
theorem ownsRow_ne {w : World} {base : Nat} {e : TypeId} {size : Nat} {v : Value} {n : Nat} {xs : List Value} (h : w.ownsRow base e size v n xs) {b : Nat} (hb : b < base) : some b ≠ v.ownBlock := by
  intro e'
  have := (h.lt b e'.symm).1
  omega
abbrev strs (fs : List (Nat × Bytes)) : List Value := fs.map fun x => Value.string (str x.2)

set_option maxRecDepth 100000 in
set_option maxHeartbeats 4000000 in
theorem all_in (s : ByteArray) (hs : s.size ≤ maxLen) (hN : (scan s.data.toList 0).1.length * 16 ≤ 140737488355328) (w : World) :
    Calls Tryz.prog 45 #[.string s] w fun e W' => ∃ v, e = .returned (.tuple #[v, .int .i64 (allOf s.data.toList).2.1, .int .i64 (allOf s.data.toList).2.2]) ∧
      W'.ownsRow w.heap.size 9 1 v (scan s.data.toList 0).1.length (strs (scan s.data.toList 0).1) ∧ Below w.heap.size w W' := by
  have hs' := hs
  unfold maxLen at hs
  obtain ⟨i0, hi, hz0, hz1, hz2⟩ := info_parts infoString
  refine (callsIn_wide (n := 5)).1 ?_
  refine callsIn_of_wp_marks Tryz.func45 rfl trivial ?_ rfl
  simp only [Tryz.ntmps45, List.size_toArray, List.length_cons, List.length_nil, Nat.reduceAdd, Nat.reduceSub, Array.replicate_succ, Array.replicate_zero, List.push_toArray, List.append_toArray, List.nil_append, List.cons_append]
  gi_wp2_with (refine ⟨trivial, ?_⟩; gi_at_call 78; refine (each_in _ s _).mono ?_; rintro e w' ⟨rfl, rfl⟩)
  have bO := Boxed.new w 100 (.slice none 0 0)
  have bE := Boxed.new (w.alloc (.cells #[.slice none 0 0] 100)) 3 (.int .i64 0)
  have bN := Boxed.new ((w.alloc (.cells #[.slice none 0 0] 100)).alloc (.cells #[.int .i64 0] 3)) 9 (.string s)
  simp only [World.size_alloc] at bE bN
  have hB0 : Below w.heap.size w (((w.alloc (.cells #[.slice none 0 0] 100)).alloc (.cells #[.int .i64 0] 3)).alloc (.cells #[.string s] 9)) := (((Below.refl _ w).alloc (Nat.le_refl _) _).alloc (by simp) _).alloc (by simp; omega) _
  refine wpIn_rangeFunc_ownG rfl (by omega) (gf := 110) (lb := #[.pointer (some ⟨w.heap.size + 2, 0, none⟩)]) rfl trivial (enters_of Tryz.func110 (by kernel_rfl) rfl)
    (each_stops _ (by omega) (w.heap.size + 2) w.heap.size s hs' _ (by simp) bN.cell) keepsBox_t (keepsBox_b (by simp; omega) (by simp)) (Below.refl _ _) (fun _ => rfl)
    (fun pre W => (∃ v, Boxed W w.heap.size 100 v ∧ W.ownsRow (w.heap.size + 3) 9 1 v pre.length (strs pre) ∧ True) ∧ Boxed W (w.heap.size + 1) 3 (.int .i64 (endV pre)) ∧ Boxed W (w.heap.size + 2) 9 (.string s) ∧ Below w.heap.size w W)
    (fun _ _ _ => False)
    (OwnFrom.and (Own.from (holdsRow_own (w.heap.size + 3) w.heap.size 100 9 1 (fun pre => pre.length) (fun pre => strs pre) (fun _ _ => True)) _) (OwnFrom.and (Own.from (boxed_own _ _ _) _) (OwnFrom.and (Own.from (boxed_own _ _ _) _) (ownFrom_below (Nat.le_refl _) (by simp; omega)))))
    (fun _ _ _ _ _ hs _ _ => hs)
    ⟨⟨_, (bO.alloc _).alloc _, World.ownsRow_nil _ _ _ _, trivial⟩, bE.alloc _, bN, hB0⟩
    (fun x => { tmps := #[.string s, undef, .slice none 0 0, .int .i64 0, .int .i64 0, .pointer (some ⟨w.heap.size, 0, none⟩), .pointer (some ⟨w.heap.size + 1, 0, none⟩), .int .i64 x.1, .string (str x.2), undef, undef, undef, .string s, .func (.func 110) #[] #[.pointer (some ⟨w.heap.size + 2, 0, none⟩)], .int .i64 x.1, .string (str x.2), undef, undef, undef, undef, undef, undef, undef, undef, undef, undef, undef, undef, undef, undef, undef, undef, undef, undef, undef, undef, undef, undef, undef, undef, undef, undef], defers := [] }) ?assign ?body ?done ?stop
  case assign =>
    intro l x W K hK
    gi_wp2
    exact hK
  case body =>
    rintro l pre x W ⟨⟨v, hv, hrow, _⟩, hE, hS, hB⟩ hlt
    have hlt2 : (pre.length + 1) * 16 ≤ 140737488355328 := by omega
    have hlt3 : pre.length + 1 ≤ maxLen := by unfold maxLen; omega
    have hc := hv.cell
    have hsx : (str x.2).size = x.2.length := str_size _
    have HE := hid (endV_snoc pre x)
    have hBs := hB.size
    have hBs3 : w.heap.size + 3 ≤ W.heap.size := hS.lt
    gi_wp2_with (gi_at_builtin; refine wpListIn_append_own _ rfl _ _ 100 rfl (w.heap.size + 3) 9 i0 (.string { data := #[] }) 1 16 Tryz.underlying100 hi hz0 hz1 hz2 rfl (by decide) _ _ _ rfl (hrow.alloc _) ⟨W.heap.size, 0, none⟩ 1 1 [.string (str x.2)] rfl rfl (cell_one_new _ _ _) (by simp [Value.oneCell']) (by omega) (by omega) (by simp; omega) ?_; intro v' w1 hown' hgrow _; obtain ⟨g', cap', rfl⟩ := ownsRow_succ hown'; obtain ⟨hv1, hv2, hr2, hk2, hb2⟩ := hv.appended (by decide) (ownsRow_mono hrow (Nat.le_add_right _ 3)) hBs (Nat.le_refl _) (ownsRow_mono hown' (Nat.le_add_right _ 3)) hgrow; clear hr2; have hc1 := hv1.cell; have hf1 := hv1.frozen; have hE1 := (hE.alloc _).kept hgrow (hE.not_row (by decide) hrow); have hE2 := hE1.other (B' := w.heap.size) (by omega) (.slice (some ⟨g', 0, none⟩) (pre.length + 1) cap'); have he2 := hE2.cell; have he3 := hE2.frozen)
    have hS1 := (hS.alloc (.cells #[.string (str x.2)] 9)).kept hgrow (ownsRow_ne hrow (by omega))
    have hS2 := (hS1.other (B' := w.heap.size) (by omega) (.slice (some ⟨g', 0, none⟩) (pre.length + 1) cap')).other (B' := w.heap.size + 1) (by omega) (.int .i64 (wrap64 (wrap64 ((x.1 : Int) + 8) + (x.2.length : Int))))
    have hr1 := (hown'.kept (grownBy_setCell' w1 w.heap.size (.slice (some ⟨g', 0, none⟩) (pre.length + 1) cap')) (.inr (ownsRow_ne hown' (by omega)).symm)).kept (grownBy_setCell' _ (w.heap.size + 1) (.int .i64 (wrap64 (wrap64 ((x.1 : Int) + 8) + (x.2.length : Int))))) (.inr (ownsRow_ne hown' (by omega)).symm)
    have hb3 := hb2.setCell (p := ⟨w.heap.size + 1, 0, none⟩) (Nat.le_succ _) (.int .i64 (wrap64 (wrap64 ((x.1 : Int) + 8) + (x.2.length : Int))))
    exact ⟨(hk2.trans (KeepsOthers.setCell _ _ _)).from _, ⟨hb3, (show _ = _ from hS2).trans (show _ = _ from hS).symm⟩, ⟨_, hv2.other (by omega) _, by simpa using hr1, trivial⟩, by rw [HE.out]; exact hE2.set _, hS2, hB.trans hb3⟩
  case done =>
    rintro D ys W hD rfl ⟨⟨v, hv, hrow, _⟩, hE, hS, hB⟩ hK
    have hle := allOf_le s.data.toList
    rw [len_of] at hle
    rw [endV_is _ (by rw [allOf_end]; omega), allOf_end] at hE
    have hc := hv.cell
    have he := hE.cell
    have HA1 := hid (show (allOf s.data.toList).2.1 = (scan s.data.toList 0).2 from rfl)
    have HA2 := hid (show (allOf s.data.toList).2.2 = if (scan s.data.toList 0).2 = s.data.toList.length then 0 else (cutOf (s.data.toList.drop (scan s.data.toList 0).2)).2.2 from rfl)
    by_cases hend : (scan s.data.toList 0).2 = s.size
    · have ht : (((scan s.data.toList 0).2 : Int) == (s.size : Int)) = true := by rw [beq_iff_eq]; omega
      have HE := hid hend
      clear hend
      gi_wp2
      gi_region
      all_goals gi_wp2
      refine ⟨by simp, .inl ⟨_, _, rfl, run_takeDeferred (show W.drew.heap[D]? = some (.deferred (some [])) from hK), ?_⟩⟩
      rw [HA1.out, HA2.out, if_pos (by rw [len_of]; exact HE.out)]
      exact ⟨_, results_tmp3 rfl _ _ _, v, rfl, ownsRow_mono (ownsRow_putObj hrow.drew _ (show W.drew.heap[D]? = _ from hK) rfl) (Nat.le_add_right _ 3), hB.drew.trans (belowK_b (w := w) (Nat.le_refl _) W.drew D _ _ (by simp at hD; omega) (show W.drew.heap[D]? = _ from hK) rfl rfl)⟩
    · have ht : (((scan s.data.toList 0).2 : Int) == (s.size : Int)) = false := by rw [beq_eq_false_iff_ne]; omega
      have HE := hid hend
      clear hend
      gi_wp2_with (refine ⟨trivial, ?_⟩; gi_at_call 79; refine (callsIn_wide.2 (cut_at s hs' _ _)).mono ?_; rintro e w2 ⟨rfl, hb2⟩)
      have hc2 : w2.cell? ⟨w.heap.size, 0, none⟩ = some v := (hb2.cell (p := ⟨w.heap.size, 0, none⟩) (World.block_lt_of_cell? _ _ hc)).trans hc
      have he2 : w2.cell? ⟨w.heap.size + 1, 0, none⟩ = some (.int .i64 ((scan s.data.toList 0).2 : Int)) := (hb2.cell (p := ⟨w.heap.size + 1, 0, none⟩) (World.block_lt_of_cell? _ _ he)).trans he
      have hK2 : w2.heap[D]? = some (.deferred (some [])) := (hb2.block D (Array.getElem?_eq_some_iff.1 hK).1).trans hK
      have hrow2 := hrow.kept (below_grown hb2) (by cases hv0 : v.ownBlock <;> simp)
      gi_region
      all_goals gi_wp2
      refine ⟨by simp, .inl ⟨_, _, rfl, run_takeDeferred (show w2.drew.heap[D]? = some (.deferred (some [])) from hK2), ?_⟩⟩
      rw [HA1.out, HA2.out, if_neg (by rw [len_of]; exact HE.out)]
      exact ⟨_, results_tmp3 rfl _ _ _, v, rfl, ownsRow_mono (ownsRow_putObj hrow2.drew _ (show w2.drew.heap[D]? = _ from hK2) rfl) (Nat.le_add_right _ 3), ((hB.trans (hb2.mono hB.size)).drew).trans (belowK_b (w := w) (Nat.le_refl _) w2.drew D _ _ (by simp at hD; omega) (show w2.drew.heap[D]? = _ from hK2) rfl rfl)⟩
  case stop =>
    rintro D c pre W _ _ h _
    exact h.elim
end Go.Proofs.YtmehcogaopackaaGreat
