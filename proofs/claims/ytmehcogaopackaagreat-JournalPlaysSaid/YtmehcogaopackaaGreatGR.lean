/-
  What a script's calls leave of the two journals: lemmas for JournalPlays. (Several texts in one.)
-/
import Derived.Test.YtmehcogaopackaaGreatZOpen
import Derived.Test.YtmehcogaopackaaGreatZLaw1
import Derived.Test.YtmehcogaopackaaGreatJAlive
/- The program's Open and the reference's, one behind the other: the two journals that they leave; what a script's calls leave of a disk's numbers. -/
namespace Go.Proofs.YtmehcogaopackaaGreat
open Go.RowKit
set_option linter.unusedVariables false
set_option linter.unusedSimpArgs false
/-- the one operation that is left but for those that wait for it, its guard letting it run -/
theorem wpAnyH_oneY {P : Program} {ops : Array Oper} {Q : Exit → Act → World → Prop} {md : Region.Mode} {S : World → Prop} {i : Nat} {o : Oper} {fuel : Nat} {listed : Array Bool} {a : Act} {w : World} (hi : ops[i]? = some o) (hw : Region.wanted o (yielded ops a.tmps) = true) (hr : Region.ready md ops listed = [i])
    (h : o.wp P a w (fun a' w' => S w' ∧ wpAnyH P md ops Q S fuel (listed.setIfInBounds i true) a' w') Q) : wpAnyH P md ops Q S (fuel + 1) listed a w := by
  refine wpAnyH_all hr (by simp) (fun j hj => ?_)
  obtain rfl : j = i := by simpa using hj
  unfold wpOp
  simp only [hi]
  rw [if_pos hw]
  exact .inl h
/-- the two journals, or none -/
def PairAt (B : Nat) (W : World) (p q : Nat) (G : List Nat) (d : Ds) (S : Option Js) (vj vk : Value) : Prop :=
  match S with
  | none => vj = .pointer none ∧ vk = .pointer none ∧ DkAt W p G d ∧ RdAt G W q d
  | some S => ∃ j k, vj = .pointer (some ⟨j, 0, none⟩) ∧ vk = .pointer (some ⟨k, 0, none⟩) ∧ Both W j p k q G d S ∧ B ≤ k
/-- behind the program's Open -/
def Half (W : World) (p : Nat) (G : List Nat) (r : Ds × Option Js × Nat) (vj : Value) (c : Nat) : Prop :=
  match r.2.1 with
  | none => vj = .pointer none ∧ c = r.2.2 ∧ DkAt W p G r.1
  | some S => ∃ j, vj = .pointer (some ⟨j, 0, none⟩) ∧ c = 0 ∧ JnAt W j p G r.1 S
theorem open_half {W W1 : World} {p q : Nat} {F : List Nat} {d : Ds} {r : Ds × Option Js × Nat} {e : Ending} (h : OpenPost W p F r e W1) (hr : RdAt F W q d) :
    ∃ vj c G1, e = .returned (.tuple #[vj, .int .i64 (c : Nat)]) ∧ Half W1 p G1 r vj c ∧ RdAt G1 W1 q d ∧ (∀ b ∈ G1, b ∈ F ∨ W.heap.size ≤ b) ∧ Turn F W W1 ∧ ∀ b ∈ G1, b < W1.heap.size := by
  unfold OpenPost at h
  unfold Half
  cases hS : r.2.1 with
  | none =>
    rw [hS] at h
    obtain ⟨rfl, F', h1, h2, h3⟩ := h
    exact ⟨_, _, F', rfl, ⟨rfl, rfl, h1⟩, hr.besides h3 h2, h2, h3, h1.lt⟩
  | some S =>
    rw [hS] at h
    obtain ⟨j, G, rfl, h1, h2, h3, _⟩ := h
    exact ⟨_, 0, G, rfl, ⟨j, rfl, rfl, h1⟩, hr.besides h3 h2, h2, h3, h1.lt⟩
theorem half_pair {W1 W2 : World} {p q : Nat} {G : List Nat} {d : Ds} {r : Ds × Option Js × Nat} {vj : Value} {c : Nat} {e : Ending} (h : Half W1 p G r vj c) (hr : RdAt G W1 q d) (h2 : ROpenPost G W1 q r e W2) {B : Nat} (hB : B ≤ W1.heap.size) :
    ∃ vk, e = .returned (.tuple #[vk, .int .i64 (c : Nat)]) ∧ PairAt B W2 p q G r.1 r.2.1 vj vk ∧ Turn [q] W1 W2 := by
  have hq : q ∉ G := by obtain ⟨_, _, _, _, _, _, _, h⟩ := hr; exact h
  unfold Half at h
  unfold ROpenPost at h2
  unfold PairAt
  cases hS : r.2.1 with
  | none =>
    rw [hS] at h h2
    obtain ⟨rfl, rfl, h1⟩ := h
    obtain ⟨rfl, h3, t⟩ := h2
    exact ⟨_, rfl, ⟨rfl, rfl, h1.turn t (by simpa using hq), h3⟩, t⟩
  | some S =>
    rw [hS] at h h2
    obtain ⟨j, rfl, rfl, h1⟩ := h
    obtain ⟨k, rfl, h3, t, hk⟩ := h2
    exact ⟨_, rfl, ⟨j, k, rfl, rfl, ⟨h1.turn t (by simpa using hq), h3⟩, Nat.le_trans hB hk⟩, t⟩
/-- the disks of the two -/
theorem PairAt.disks {B : Nat} {W : World} {p q : Nat} {G : List Nat} {d : Ds} {S : Option Js} {vj vk : Value} (h : PairAt B W p q G d S vj vk) : ∃ F, DkAt W p F d ∧ RdAt F W q d ∧ (∀ b ∈ F, b ∈ G) := by
  unfold PairAt at h
  cases S with
  | none => exact ⟨G, h.2.2.1, h.2.2.2, fun b hb => hb⟩
  | some S =>
    obtain ⟨j, k, _, _, ⟨h1, h2⟩, _⟩ := h
    obtain ⟨F, k1, k2, _⟩ := h1.opened
    exact ⟨F, k1, (h2.rd.sub (fun b hb => List.mem_cons_of_mem _ hb)).sub k2, k2⟩
theorem PairAt.below {B : Nat} {W W' : World} {p q : Nat} {G : List Nat} {d : Ds} {S : Option Js} {vj vk : Value} (h : PairAt B W p q G d S vj vk) (hb : Below W.heap.size W W') : PairAt B W' p q G d S vj vk := by
  unfold PairAt at h ⊢
  cases S with
  | none => exact ⟨h.1, h.2.1, h.2.2.1.below hb, h.2.2.2.below hb⟩
  | some S =>
    obtain ⟨j, k, e1, e2, h1, h2⟩ := h
    exact ⟨j, k, e1, e2, h1.below hb, h2⟩
theorem PairAt.lt {B : Nat} {W : World} {p q : Nat} {G : List Nat} {d : Ds} {S : Option Js} {vj vk : Value} (h : PairAt B W p q G d S vj vk) : (∀ b ∈ G, b < W.heap.size) ∧ q ∉ G ∧ q < W.heap.size := by
  unfold PairAt at h
  cases S with
  | none =>
    refine ⟨h.2.2.1.lt, ?_, h.2.2.2.lt⟩
    obtain ⟨_, _, _, _, _, _, _, h⟩ := h.2.2.2
    exact h
  | some S =>
    obtain ⟨j, k, _, _, ⟨h1, h2⟩, _⟩ := h
    refine ⟨h1.lt, ?_, h2.rd.lt⟩
    obtain ⟨_, _, _, _, _, _, _, h⟩ := h2.rd
    exact fun hm => h (List.mem_cons_of_mem _ hm)
theorem jOpen_fine {d : Ds} {n : Nat} (h : d.Ok n) (hf : d.Fine) : (jOpen d).1.Ok (n + 3) ∧ (jOpen d).1.Fine ∧ ∀ S, (jOpen d).2.1 = some S → S.log.l.length ≤ 131072 := by
  have h1 := jOpen1_ok h
  have f1 : (jOpen1 d).2.1.Fine := by
    unfold jOpen1
    split
    · exact (hf.puts _).sync' (h.puts _).1.1
    · exact hf
  have h2 := jOpen2_ok h1.1 (jOpen1 d).1
  have f2 : (jOpen2 (jOpen1 d).2.1 (jOpen1 d).1).1.Fine := by
    unfold jOpen2
    split
    · exact (f1.puts _).sync' (h1.1.puts _).1.1
    · exact f1
  have hl := h1.2.2
  unfold jOpen
  generalize jOpen1 d = q1 at *
  obtain ⟨s, d1, e1⟩ := q1
  simp only at h1 h2 f1 f2 hl ⊢
  have hn : ∀ {d' : Ds} {m : Nat}, d'.Ok m → m ≤ n + 3 → d'.Ok (n + 3) := fun ho hm => ⟨ho.1, Nat.le_trans ho.2 hm⟩
  split
  · exact ⟨hn h1.1 (by omega), f1, fun S hS => by cases hS⟩
  split
  · exact ⟨hn h2.1 (by omega), f2, fun S hS => by cases hS⟩
  · generalize jOpen2 d1 s = q2 at *
    obtain ⟨d2, e2⟩ := q2
    simp only at h2 f2 ⊢
    unfold jOpen3
    have hb := bodies_len s
    have hc := allOf_count s
    cases hr : rd (allOf s).1 with
    | none => exact ⟨hn h2.1 (by omega), f2, fun S hS => by cases hS⟩
    | some S =>
      have h3 := h2.1.add (hardRec S.up.hard)
      have h4 := (Ds.Ok.sync' h3).1
      have f3 := (f2.add (hardRec S.up.hard)).sync' h3.1.1
      simp only
      split
      · exact ⟨hn h4 (by omega), f3, fun S hS => by cases hS⟩
      · refine ⟨hn h4 (by omega), f3, fun S' hS => ?_⟩
        cases hS
        have := (rd_ok hr).2
        rw [up_log]
        omega
theorem jAct_ok {d : Ds} {S : Js} {n : Nat} (h : d.Ok n) (hf : d.Fine) (a : Ac) : (jAct d S a).1.Ok (n + 1) ∧ (jAct d S a).1.Fine ∧ (jAct d S a).2.log.l.length ≤ S.log.l.length + a.log.l.length := by
  unfold jAct
  split
  · have h1 := jSave_ok (S := S) h a.hard
    refine ⟨h1.1, ?_, by rw [h1.2]; omega⟩
    have f := (hf.add (hardRec ⟨a.hard.term, a.hard.vote, S.hard.life⟩)).sync' (h.add _).1.1
    unfold jSave
    split
    · exact hf
    · split
      · exact hf
      · split <;> exact f
  split
  · have h1 := jAppend_ok (S := S) h a.fr a.log.l
    refine ⟨h1.1, ?_, h1.2⟩
    have f := (hf.add (entRecs a.fr a.log.l).flatten).sync' (h.add _).1.1
    unfold jAppend
    split
    · exact hf
    · split
      · exact hf
      · split <;> exact f
  split
  · have h1 := jRebase_ok (S := S) h a.log a.image
    refine ⟨h1.1, ?_, h1.2⟩
    have f := (hf.puts (fileB ⟨S.hard, a.log, a.image⟩)).sync' (h.puts _).1.1
    unfold jRebase
    split
    · exact hf
    · split <;> exact f
  · exact ⟨⟨h.1, Nat.le_succ_of_le h.2⟩, hf, by simp only; omega⟩
end Go.Proofs.YtmehcogaopackaaGreat
/- What a script's calls leave of the two journals: lemmas for JournalPlays. -/
namespace Go.Proofs.YtmehcogaopackaaGreat
open Go.RowKit
set_option linter.unusedVariables false
set_option linter.unusedSimpArgs false
theorem AcFit.of {a : Ac} {vc vl : Value} {w : World} (h : AcArg a vc vl w) (h1 : a.log.l.length ≤ 1000) (h2 : a.log.conf.length ≤ 1000) (h3 : a.image.length ≤ 65536) (h4 : ∀ e ∈ a.log.l, e.data.length ≤ 65536) : AcFit a :=
  ⟨h.2.2.1, h.2.2.2.1, h.2.2.2.2.1, h.2.2.2.2.2.1, h.2.2.2.2.2.2.1, fun e he => ⟨(h.2.2.2.2.2.2.2.1 e he).1, by have := h4 e he; omega⟩, h2, h1, by omega⟩
theorem AcArg.below {a : Ac} {vc vl : Value} {w w' : World} (h : AcArg a vc vl w) (hb : Below w.heap.size w w') : AcArg a vc vl w' := ⟨h.1.below hb, h.2.1.below hb, h.2.2⟩
theorem AcsArg.below {l : List Ac} {v : Value} {w w' : World} (h : AcsArg l v w) (hb : Below w.heap.size w w') : AcsArg l v w' := by
  obtain ⟨x, cap, hv, h1, h2, hx⟩ := h
  refine ⟨x, cap, hv, h1, h2, fun hp => ?_⟩
  obtain ⟨b, off, hxe, hj⟩ := hx hp
  refine ⟨b, off, hxe, fun j hj' => ?_⟩
  obtain ⟨vc, vl, ha, hc⟩ := hj j hj'
  refine ⟨vc, vl, ha.below hb, fun k u hu => ?_⟩
  have h1 := hc k u hu
  exact (World.cell?_of_block (hb.block b (World.block_lt_of_cell? _ _ h1))).trans h1
/-- between a call of the program's disk and that of the reference's -/
def Pair2 (B : Nat) (W : World) (p q : Nat) (G : List Nat) (d1 d2 : Ds) (S : Option Js) (vj vk : Value) : Prop :=
  match S with
  | none => vj = .pointer none ∧ vk = .pointer none ∧ DkAt W p G d1 ∧ RdAt G W q d2
  | some S => ∃ j k, vj = .pointer (some ⟨j, 0, none⟩) ∧ vk = .pointer (some ⟨k, 0, none⟩) ∧ JnAt W j p G d1 S ∧ RjAt G W k q d2 S ∧ B ≤ k
theorem PairAt.one {B : Nat} {W : World} {p q : Nat} {G : List Nat} {d : Ds} {S : Option Js} {vj vk : Value} (h : PairAt B W p q G d S vj vk) :
    ∃ F, DkAt W p F d ∧ ∀ W' d', After W p F d' W' → ∃ G', Pair2 B W' p q G' d' d S vj vk ∧ (∀ b ∈ G', b ∈ G ∨ W.heap.size ≤ b) ∧ Turn G W W' := by
  unfold PairAt at h
  unfold Pair2
  cases S with
  | none =>
    refine ⟨G, h.2.2.1, fun W' d' ha => ?_⟩
    obtain ⟨F', h1, h2, h3⟩ := ha
    exact ⟨F', ⟨h.1, h.2.1, h1, h.2.2.2.besides h3 h2⟩, h2, h3⟩
  | some S =>
    obtain ⟨j, k, e1, e2, hb, hk⟩ := h
    obtain ⟨F, k1, k2, k3, k4, k5⟩ := hb.1.opened
    refine ⟨F, k1, fun W' d' ha => ?_⟩
    obtain ⟨G', h1, h2, h3, h4⟩ := hb.one (k5 W' d' ha)
    exact ⟨G', ⟨j, k, e1, e2, h1, h2, hk⟩, h3, h4⟩
theorem Pair2.two {B : Nat} {W : World} {p q : Nat} {G : List Nat} {d1 d2 : Ds} {S : Option Js} {vj vk : Value} (h : Pair2 B W p q G d1 d2 S vj vk) :
    ∃ K, RdAt K W q d2 ∧ (∀ b ∈ K, b < W.heap.size) ∧ ∀ W', RdAt K W' q d1 → Turn [q] W W' → PairAt B W' p q G d1 S vj vk := by
  unfold Pair2 at h
  unfold PairAt
  cases S with
  | none =>
    obtain ⟨e1, e2, h1, h2⟩ := h
    have hq : q ∉ G := by obtain ⟨_, _, _, _, _, _, _, h⟩ := h2; exact h
    exact ⟨G, h2, h1.lt, fun W' h3 t => ⟨e1, e2, h1.turn t (by simpa using hq), h3⟩⟩
  | some S =>
    obtain ⟨j, k, e1, e2, h1, h2, hk⟩ := h
    have hq : q ∉ G := by obtain ⟨_, _, _, _, _, _, _, h⟩ := h2.rd; exact fun hm => h (List.mem_cons_of_mem _ hm)
    refine ⟨k :: G, h2.rd, fun b hb => ?_, fun W' h3 t => ⟨j, k, e1, e2, ⟨h1.turn t (by simpa using hq), h2.disk h3 t⟩, hk⟩⟩
    rcases List.mem_cons.1 hb with rfl | hb
    · exact h2.jlt
    · exact h1.lt b hb
theorem Ds.Ok.mono {d : Ds} {n m : Nat} (h : d.Ok n) (hm : n ≤ m) : d.Ok m := ⟨h.1, Nat.le_trans h.2 hm⟩
/-- where a script stands behind t of its calls -/
def Ply (B : Nat) (W0 W : World) (p q t : Nat) (G : List Nat) (d : Ds) (S : Option Js) (vj vk : Value) : Prop :=
  PairAt B W p q G d S vj vk ∧ (∀ b ∈ G, B ≤ b) ∧ d.Ok (3 + 4 * t) ∧ d.Fine ∧ (∀ S', S = some S' → S'.log.l.length ≤ 131072 + 1000 * t) ∧ Below B W0 W
theorem Turn.bel {F : List Nat} {W0 W W' : World} (hb : Below W0.heap.size W0 W) (t : Turn F W W') (hF : ∀ b ∈ F, W0.heap.size ≤ b) : Below W0.heap.size W0 W' := hb.trans (t.toBelow hb.size hF)
theorem dnew_no (cap : Int) (hc : cap < 0 ∨ 1048576 < cap) (W : World) :
    Calls Tryz.prog 6 #[.int .i64 cap] W fun e W' => e = .returned (.tuple #[.pointer none, .int .i64 1]) ∧ Below W.heap.size W W' := by
  by_cases h : cap < 0
  · go_enter Tryz.func6, Tryz.ntmps6
    go_wp2_with fail
    go_ret2
    exact ⟨rfl, Below.refl _ _⟩
  · have h2 : 1048576 < cap := by omega
    go_enter Tryz.func6, Tryz.ntmps6
    go_wp2_with fail
    go_ret2
    exact ⟨rfl, Below.refl _ _⟩
theorem dsnew_fine_ok (cap : Nat) (hc : cap ≤ 1048576) : (Ds.new cap).Ok 0 ∧ (Ds.new cap).Fine := ⟨dsnew_ok cap hc, Ds.Fine.new cap⟩
end Go.Proofs.YtmehcogaopackaaGreat
