/-
  The journal's sync; the disk's model behind a call; a journal as it lies in memory; what Open does, as a model.
-/
import Derived.Test.YtmehcogaopackaaGreatJRead7
namespace Go.Proofs.YtmehcogaopackaaGreat
open Go.RowKit
set_option linter.unusedVariables false
set_option linter.unusedSimpArgs false
/-- a disk whose numbers are as they may be, and that has at most n pending calls -/
def Ds.Ok (d : Ds) (n : Nat) : Prop := d.ok ∧ d.pend.length ≤ n
theorem Ds.may_zero {d : Ds} {more : Int} (h : ¬ d.may more ≠ 0) : (d.fused = true → 1 ≤ d.left) ∧ (d.used : Int) + more ≤ d.cap := by
  have h0 : d.may more = 0 := by omega
  unfold Ds.may at h0
  split at h0
  · cases h0
  · rename_i ho
    split at h0
    · cases h0
    · rename_i hc
      refine ⟨fun hf => ?_, by omega⟩
      unfold Ds.off at ho
      rw [hf] at ho
      simp at ho
      omega
theorem Ds.spend_ok {d : Ds} (h : d.ok) (hl : d.fused = true → 1 ≤ d.left) : d.spend.ok := by
  obtain ⟨h1, h2, h3, h4, h5⟩ := h
  refine ⟨h1, h2, h3, ?_, ?_⟩ <;> (unfold Ds.spend; simp only; split <;> first | assumption | (rename_i hf; have := hl hf; omega))
theorem Ds.Ok.puts {d : Ds} {n : Nat} (h : d.Ok n) (s : Bytes) : (d.puts s).1.Ok (n + 1) ∧ (d.puts s).2 < 9 := by
  unfold Ds.puts
  split
  · refine ⟨⟨h.1, by have := h.2; simp only; omega⟩, ?_⟩
    simp only
    unfold Ds.may
    split
    · omega
    · split <;> omega
  · rename_i hm
    obtain ⟨m1, m2⟩ := Ds.may_zero hm
    obtain ⟨⟨h1, h2, h3, h4, h5⟩, hp⟩ := h
    have hs : lenO (some s) ≤ d.cap := by
      have : lenO (some s) = s.length := rfl
      unfold Ds.used at m2
      omega
    have hk : Ds.ok { d with seen := some s, pend := d.pend ++ [⟨true, s⟩] } := ⟨h1, hs, h3, h4, h5⟩
    refine ⟨⟨Ds.spend_ok hk m1, ?_⟩, by omega⟩
    · show (d.pend ++ [(⟨true, s⟩ : Pd)]).length ≤ n + 1
      rw [List.length_append, List.length_singleton]
      omega
theorem Ds.Ok.add {d : Ds} {n : Nat} (h : d.Ok n) (s : Bytes) : (d.add s).1.Ok (n + 1) ∧ (d.add s).2 < 9 := by
  unfold Ds.add
  split
  · refine ⟨⟨h.1, by have := h.2; simp only; omega⟩, ?_⟩
    simp only
    unfold Ds.may
    split
    · omega
    · split <;> omega
  · rename_i hm
    split
    · exact ⟨⟨h.1, by have := h.2; simp only; omega⟩, by omega⟩
    · obtain ⟨m1, m2⟩ := Ds.may_zero hm
      obtain ⟨⟨h1, h2, h3, h4, h5⟩, hp⟩ := h
      have hs : lenO (some (d.seen.getD [] ++ s)) ≤ d.cap := by
        have : lenO (some (d.seen.getD [] ++ s)) = (d.seen.getD [] ++ s).length := rfl
        rw [this, List.length_append]
        unfold Ds.used lenO at m2
        omega
      have hk : Ds.ok { d with seen := some (d.seen.getD [] ++ s), pend := d.pend ++ [⟨false, s⟩] } := ⟨h1, hs, h3, h4, h5⟩
      refine ⟨⟨Ds.spend_ok hk m1, ?_⟩, by omega⟩
      · show (d.pend ++ [(⟨false, s⟩ : Pd)]).length ≤ n + 1
        rw [List.length_append, List.length_singleton]
        omega
theorem Ds.Ok.sync {d : Ds} {n : Nat} (h : d.Ok n) : d.sync.1.Ok n ∧ d.sync.2 < 9 := by
  unfold Ds.sync
  split
  · refine ⟨h, ?_⟩
    simp only
    unfold Ds.may
    split
    · omega
    · split <;> omega
  · rename_i hm
    obtain ⟨m1, m2⟩ := Ds.may_zero hm
    obtain ⟨⟨h1, h2, h3, h4, h5⟩, hp⟩ := h
    exact ⟨⟨Ds.spend_ok (d := { d with lasts := d.seen, pend := [] }) ⟨h1, h2, h2, h4, h5⟩ m1, Nat.zero_le _⟩, by omega⟩
theorem Ds.Ok.sync' {p : Ds × Nat} {n : Nat} (h : p.1.Ok n ∧ p.2 < 9) : (Ds.sync' p).1.Ok n ∧ (Ds.sync' p).2 < 9 := by
  unfold Ds.sync'
  split
  · exact h
  · exact h.1.sync
theorem jsync_any {W : World} {p : Nat} {F : List Nat} {q : Ds × Nat} (h : DkAt W p F q.1) (hok : q.1.ok) (he : q.2 < 9) :
    Calls Tryz.prog 44 #[.pointer (some ⟨p, 0, none⟩), .int .i64 (q.2 : Nat)] W fun e w' => e = .returned (.int .i64 ((Ds.sync' q).2 : Nat)) ∧ After W p F (Ds.sync' q).1 w' := by
  obtain ⟨d, e0⟩ := q
  simp only at h hok he
  have HY := hid (sync_any h hok)
  have H := hid h
  clear h
  by_cases h0 : e0 = 0
  · subst h0
    have HS := hid (show Ds.sync' (d, 0) = d.sync from rfl)
    go_enter Tryz.func44, Tryz.ntmps44
    go_wp2_with fail
    refine Calls.mono HY.out ?_
    rintro e w1 ⟨rfl, ha⟩
    have HA := hid ha
    clear ha
    go_wp2_with fail
    go_ret
    rw [HS.out]
    exact ⟨rfl, HA.out⟩
  · have HS := hid (show Ds.sync' (d, e0) = (d, e0) by unfold Ds.sync'; rw [if_pos h0])
    have h1 : ((e0 : Int) == 0) = false := by simp only [beq_eq_false_iff_ne, ne_eq]; omega
    have h2 : ((e0 : Int) != 0) = true := by simp only [bne_iff_ne, ne_eq]; omega
    have h3 : ¬ ((e0 : Int) = 0) := by omega
    go_enter Tryz.func44, Tryz.ntmps44
    go_wp2_with fail
    go_ret
    rw [HS.out]
    exact ⟨rfl, F, H.out, fun _ h => .inl h, .refl _ _⟩
/-- the cells of a journal: its disk, and the state's -/
def jnCells (p : Nat) (S : Js) (z : Nat) (vc vl : Value) : Array Value := #[.pointer (some ⟨p, 0, none⟩), .int .u64 S.hard.term, .int .i64 S.hard.vote, .int .u64 S.hard.life, .int .u64 S.log.base, .int .u64 S.log.bterm, vc, vl, .string (str S.image), .int .u64 z]
/-- a journal that lies in block j, with its disk in block p; G: all blocks that are theirs -/
def JnAt (W : World) (j p : Nat) (G : List Nat) (d : Ds) (S : Js) : Prop :=
  ∃ (F : List Nat) (z : Nat) (vc vl : Value), W.heap[j]? = some (.cells (jnCells p S z vc vl) 107) ∧ DkAt W p F d ∧ W.ownsRow 0 3 1 vc S.log.conf.length (intVals S.log.conf) ∧ W.ownsRow 0 116 3 vl S.log.l.length (enVals S.log.l) ∧
    JsOk S ∧ z ≤ 262144 ∧ S.log.l.length ≤ 1000000 ∧ j ∈ G ∧ j ∉ F ∧ (∀ b ∈ F, b ∈ G) ∧ (∀ r, vc.ownBlock = some r → r ∈ G ∧ r ∉ F) ∧ (∀ r, vl.ownBlock = some r → r ∈ G ∧ r ∉ F) ∧ (∀ b ∈ G, b < W.heap.size)
/-- behind a call of the journal -/
def JnAfter (W : World) (j p : Nat) (G : List Nat) (d' : Ds) (S' : Js) (W' : World) : Prop := ∃ G', JnAt W' j p G' d' S' ∧ (∀ b ∈ G', b ∈ G ∨ W.heap.size ≤ b) ∧ Turn G W W'
theorem JnAt.turn {W W' : World} {j p : Nat} {G H : List Nat} {d : Ds} {S : Js} (h : JnAt W j p G d S) (t : Turn H W W') (hH : ∀ b ∈ H, b ∉ G) : JnAt W' j p G d S := by
  obtain ⟨F, z, vc, vl, h1, h2, h3, h4, h5, h6, h6', h7, h8, h9, h10, h11, h12⟩ := h
  have hk : ∀ b ∈ G, W'.heap[b]? = W.heap[b]? := fun b hb => t.block (h12 b hb) (fun hm => hH b hm hb)
  exact ⟨F, z, vc, vl, (hk j h7).trans h1, h2.turn t (fun b hb hm => hH b hb (h9 b hm)), ownsRow_of_block h3 (fun r hr => hk r (h10 r hr).1), ownsRow_of_block h4 (fun r hr => hk r (h11 r hr).1), h5, h6, h6', h7, h8, h9, h10, h11,
    fun b hb => Nat.lt_of_lt_of_le (h12 b hb) t.size⟩
theorem JnAt.below {W W' : World} {j p : Nat} {G : List Nat} {d : Ds} {S : Js} (h : JnAt W j p G d S) (hb : Below W.heap.size W W') : JnAt W' j p G d S := h.turn (.below (F := []) hb) (by simp)
theorem JnAfter.same {W W' : World} {j p : Nat} {G : List Nat} {d : Ds} {S : Js} (h : JnAt W j p G d S) (hb : Below W.heap.size W W') : JnAfter W j p G d S W' := ⟨G, h.below hb, fun _ h => .inl h, .below hb⟩
theorem JnAfter.trans {W W1 W2 : World} {j p : Nat} {G G1 : List Nat} {d2 : Ds} {S2 : Js} (t : Turn G W W1) (hG : ∀ b ∈ G1, b ∈ G ∨ W.heap.size ≤ b) (h : JnAfter W1 j p G1 d2 S2 W2) : JnAfter W j p G d2 S2 W2 := by
  obtain ⟨G2, h1, h2, h3⟩ := h
  refine ⟨G2, h1, fun b hb => ?_, t.trans h3 hG⟩
  rcases h2 b hb with h | h
  · exact hG b h
  · exact .inr (Nat.le_trans t.size h)
/-- a life more, as far as there is room -/
def Js.up (S : Js) : Js := if S.hard.life < 9223372036854775807 then ⟨⟨S.hard.term, S.hard.vote, S.hard.life + 1⟩, S.log, S.image⟩ else S
theorem JsOk.up {S : Js} (h : JsOk S) : JsOk S.up := by
  unfold Js.up
  split
  · obtain ⟨h1, h2, h3, h4⟩ := h
    exact ⟨h1, h2, by show S.hard.life + 1 < top64; unfold top64; omega, h4⟩
  · exact h
/-- Open's first part: the file's bytes, the disk, the error -/
def jOpen1 (d : Ds) : Bytes × (Ds × Nat) := if d.read.2 = 6 then (fileB Js.zero, Ds.sync' (d.puts (fileB Js.zero))) else (d.read.1, (d, d.read.2))
/-- its second part: what is torn is cut off -/
def jOpen2 (d : Ds) (s : Bytes) : Ds × Nat := if (allOf s).2.2 = 3 then Ds.sync' (d.puts (s.take (allOf s).2.1)) else (d, (allOf s).2.2)
/-- its third part: the record of the life -/
def jOpen3 (d : Ds) (xs : List Bytes) : Ds × Option Js × Nat :=
  match rd xs with
  | none => (d, none, 4)
  | some S => if (Ds.sync' (d.add (hardRec S.up.hard))).2 ≠ 0 then ((Ds.sync' (d.add (hardRec S.up.hard))).1, none, (Ds.sync' (d.add (hardRec S.up.hard))).2) else ((Ds.sync' (d.add (hardRec S.up.hard))).1, some S.up, 0)
def jOpen (d : Ds) : Ds × Option Js × Nat :=
  if (jOpen1 d).2.2 ≠ 0 then ((jOpen1 d).2.1, none, (jOpen1 d).2.2) else
  if (jOpen2 (jOpen1 d).2.1 (jOpen1 d).1).2 ≠ 0 then ((jOpen2 (jOpen1 d).2.1 (jOpen1 d).1).1, none, (jOpen2 (jOpen1 d).2.1 (jOpen1 d).1).2) else
  jOpen3 (jOpen2 (jOpen1 d).2.1 (jOpen1 d).1).1 (allOf (jOpen1 d).1).1
theorem fileZero_len : (fileB Js.zero).length ≤ 1000 := by
  have hb : (fileB Js.zero) = frame (baseBody Js.zero.log 0) ++ hardRec Js.zero.hard := by
    show ([frame (baseBody Js.zero.log 0), hardRec Js.zero.hard] : List Bytes).flatten = _
    simp
  rw [hb, List.length_append, frame_length]
  have h1 : (baseBody Js.zero.log 0).length ≤ 5 := by decide
  have h2 : (hardRec Js.zero.hard).length ≤ 100 := by
    unfold hardRec
    rw [frame_length]
    have : (hardBody Js.zero.hard).length ≤ 5 := by decide
    omega
  omega
theorem whole_zero (w : World) : Calls Tryz.prog 43 #[.agg #[.int .u64 0, .int .i64 0, .int .u64 0, .int .u64 0, .int .u64 0, .slice none 0 0, .slice none 0 0, .string { data := #[] }, .int .u64 0]] w fun e w' => e = .returned (.string (str (fileB Js.zero))) ∧ Below w.heap.size w w' :=
  whole_at 0 0 0 0 0 0 [] [] [] Js.zero rfl (.slice none 0 0) (.slice none 0 0) w (Cells.nil _ _) (Cells.nil _ _) (by decide) (by decide) (by decide) (by decide) (by decide) (by decide) (by simp) (by decide) (by simp) (by decide)
theorem jOpen1_ok {d : Ds} {n : Nat} (h : d.Ok n) : (jOpen1 d).2.1.Ok (n + 1) ∧ (jOpen1 d).2.2 < 9 ∧ (jOpen1 d).1.length ≤ 1048576 := by
  unfold jOpen1
  split
  · have h1 := Ds.Ok.sync' (h.puts (fileB Js.zero))
    exact ⟨h1.1, h1.2, by have := fileZero_len; simp only; omega⟩
  · refine ⟨⟨h.1, by have := h.2; simp only; omega⟩, ?_, ?_⟩
    · unfold Ds.read
      split
      · simp
      · split <;> simp
    · unfold Ds.read
      split
      · simp
      · split
        · simp
        · rename_i b hb
          have h2 := h.1.2.1
          have h1 := h.1.1
          unfold Ds.used lenO at h2
          rw [hb] at h2
          simp only [Option.getD_some] at h2 ⊢
          omega
theorem jOpen2_ok {d : Ds} {n : Nat} (h : d.Ok n) (s : Bytes) : (jOpen2 d s).1.Ok (n + 1) ∧ (jOpen2 d s).2 < 9 := by
  unfold jOpen2
  split
  · exact Ds.Ok.sync' (h.puts _)
  · refine ⟨⟨h.1, by have := h.2; simp only; omega⟩, ?_⟩
    simp only
    unfold allOf
    simp only
    split
    · omega
    · have := cutOf_err_le (s.drop (scan s 0).2)
      omega
theorem jOpen3_ok {d : Ds} {n : Nat} (h : d.Ok n) (xs : List Bytes) : (jOpen3 d xs).1.Ok (n + 1) := by
  unfold jOpen3
  split
  · exact ⟨h.1, by have := h.2; simp only; omega⟩
  · rename_i S hS
    have h1 := Ds.Ok.sync' (h.add (hardRec S.up.hard))
    split
    · exact h1.1
    · exact h1.1
theorem jOpen_ok {d : Ds} {n : Nat} (h : d.Ok n) : (jOpen d).1.Ok (n + 3) := by
  have h1 := jOpen1_ok h
  have h2 := jOpen2_ok h1.1 (jOpen1 d).1
  have h3 := jOpen3_ok h2.1 (allOf (jOpen1 d).1).1
  unfold jOpen
  split
  · exact ⟨h1.1.1, by have := h1.1.2; simp only; omega⟩
  · split
    · exact ⟨h2.1.1, by have := h2.1.2; simp only; omega⟩
    · exact h3
end Go.Proofs.YtmehcogaopackaaGreat
