/-
  The walk of the law SealAll.
-/
import Derived.Test.YtndafpmngfcibaaSealTornW
import Derived.RegionIn
namespace Go.Proofs.Ytndafpmngfcibaa
open Go.RowKit Go.Shelf

attribute [local go_sem] Oper.semAt_some

variable {F : Fence} {n : Nat} {P : Program}

/-- The law for a range over a function whose body may break out of the block ID, or return in a case that cannot come: both ways go on as one. -/
theorem wpIn_rangeFunc_join {α : Type} {g : Operand} {ps : Array Tmp} {assign body : Code} {Q : Exit → Act → World → Prop} {a : Act} {w : World}
    (hro : F.round = none) (h1 : 1 ≤ n) {gf : Nat} {lb : Array Value} (hg : a.eval g = .func (.func gf) #[] lb) (hFg : F.fn gf) (eg : ∀ args w, (callFunc gf args).run P w = .ok (.enter gf args) w)
    {encs : α → Array Value} {Kp : World → World → Prop} {S Sp : List α → Prop} {N : Nat} {w0 : World} (hseq : SeqStopsK F (n - 1) P gf lb encs Kp S Sp N w0)
    (hKt : ∀ {A B C : World}, Kp A B → Kp B C → Kp A C) (hKb : ∀ (W : World) (l : Nat) (o o' : Obj), w.heap.size ≤ l → W.heap[l]? = some o → o.isCells = false → o.isWalk = false → Kp W (W.putObj l o')) (hb0 : Below w0.heap.size w0 w) (hps : ∀ x, (encs x).size = ps.size)
    (ID : Nat) (I IB : List α → World → Prop) (IR : List α → Prop) (hI : OwnFrom w.heap.size I) (hIB : OwnFrom w.heap.size IB) (h0 : I [] w) (a₁ : α → Act)
    (hassign : ∀ (l : Nat) (x : α) (W : World) (K : Act → World → Prop), K (a₁ x) W →
      assign.wpIn (F.inRound l) (n - 1 - 1) P (Exit.then K (fun _ _ _ => False)) { tmps := (ps.zip (encs x)).foldl (fun t (p, v) => t.setIfInBounds p v) a.tmps, defers := [] } W)
    (hno : ∀ pre, Sp pre → ¬ IR pre)
    (hQ : ∀ a W, Q .normal a W → Q (.exit ID) a W)
    (hbody : ∀ (l : Nat) (pre : List α) (x : α) (W : World), I pre W → pre.length < N → body.wpIn (F.inRound l) (n - 1 - 1) P (ownPostG w.heap.size Kp I (fun c pre W => (c = .exit ID ∧ IB pre W) ∨ (c = .ret ∧ IR pre)) (pre ++ [x]) W) (a₁ x) W)
    (hboth : ∀ (D : Nat) (pre : List α) (W : World), w.heap.size ≤ D → ((S pre ∧ I pre W) ∨ (Sp pre ∧ IB pre W)) → W.heap[D]? = some (.deferred (some [])) → Q .normal { a with defers := { target := .collected D, args := #[] } :: a.defers } W) :
    (Code.rangeFunc g ps assign body).wpIn F n P Q a w := by
  refine wpIn_rangeFunc_ownG hro h1 hg hFg eg hseq hKt hKb hb0 hps I (fun c pre W => (c = .exit ID ∧ IB pre W) ∨ (c = .ret ∧ IR pre)) hI ?_ h0 a₁ hassign hbody ?_ ?_
  · intro c s A B row hs hg' hr
    rcases hs with ⟨hc, hs⟩ | hs
    · exact .inl ⟨hc, hIB s A B row hs hg' hr⟩
    · exact .inr hs
  · intro D xs W hD hS hi hK
    exact hboth D xs W hD (.inl ⟨hS, hi⟩) hK
  · rintro D c pre W hD hSp (⟨rfl, hs⟩ | ⟨_, hir⟩) hK
    · exact wpIn_exit (hQ _ _ (hboth D pre W hD (.inr ⟨hSp, hs⟩) hK))
    · exact absurd hir (hno pre hSp)

/-- of what lay in W0 only block b may have turned -/
structure Only (b : Nat) (W0 W : World) : Prop where
  size : W0.heap.size ≤ W.heap.size
  block : ∀ k, k < W0.heap.size → k ≠ b → W.heap[k]? = W0.heap[k]?
theorem Only.refl (b : Nat) (W : World) : Only b W W := ⟨Nat.le_refl _, fun _ _ _ => rfl⟩
theorem Only.cell {b : Nat} {W0 W : World} (h : Only b W0 W) {p : Addr} {v : Value} (hc : W0.cell? p = some v) (hne : p.block ≠ b) : W.cell? p = some v :=
  (World.cell?_of_block (w := W0) (h.block p.block (World.block_lt_of_cell? _ _ hc) hne)).trans hc
theorem Only.boxed {b B : Nat} {t : TypeId} {v : Value} {W0 W : World} (h : Only b W0 W) (hc : Boxed W0 B t v) (hne : B ≠ b) : Boxed W B t v := (h.block B hc.lt hne).trans hc
theorem Only.set {b : Nat} {W0 W : World} (h : Only b W0 W) (v : Value) : Only b W0 (W.setCell ⟨b, 0, none⟩ v) :=
  ⟨by simp only [World.setCell, Array.size_modify]; exact h.size, fun k hk hne => (Below.heap_setCell _ _ _ _ hne).trans (h.block k hk hne)⟩
theorem ownFrom_only {β : Type} {b B : Nat} {W0 : World} (hB : W0.heap.size ≤ B) : OwnFrom B (fun (_ : β) W => Only b W0 W) :=
  fun _ _ _ _ hs hg hr => ⟨Nat.le_trans hs.size hg.size, fun k hk hne => (hg.block k (Nat.lt_of_lt_of_le hk hs.size) (fun e => by have := (hr k e.symm).1; omega)).trans (hs.block k hk hne)⟩
theorem ownFrom_of {β : Type} {B : Nat} (p : β → Prop) : OwnFrom B (fun (s : β) (_ : World) => p s) := fun _ _ _ _ hs _ _ => hs

theorem prefix_step {α : Type} {pre fr : List α} (hp : pre <+: fr) (h : pre.length < fr.length) : pre ++ [fr[pre.length]] <+: fr := by
  have e : pre = fr.take pre.length := List.prefix_iff_eq_take.1 hp
  have : fr.take (pre.length + 1) = pre ++ [fr[pre.length]] := by rw [List.take_succ_eq_append_getElem h, ← e]
  rw [← this]
  exact List.take_prefix _ _
theorem prefix_next {α : Type} {pre fr : List α} {x : α} (hp : pre ++ [x] <+: fr) (h : pre.length < fr.length) : x = fr[pre.length] := by
  obtain ⟨t, rfl⟩ := hp
  simp
theorem holds_places {w : World} {b : Nat} {v : Value} {n : Nat} {e : TypeId} (fs : List (Nat × Bytes)) (hn : n = fs.length) (h : w.ownsRow b e 1 v n (places fs)) : HoldsNats w v (fs.map (·.1)) :=
  holdsNats_own (fs.map (·.1)) (by simpa using hn) (by rw [show natVals (fs.map (·.1)) = places fs by simp [natVals, places]]; exact h)

set_option maxRecDepth 100000 in
set_option maxHeartbeats 4000000 in
theorem sealAll_core (s : ByteArray) (hs : s.size ≤ 1048576) (stop : Int) (w : World) :
    Calls Try.prog 6 #[.string s, .int .i64 stop] w fun e W' => e = .returned (.bool true) ∧ Below w.heap.size w W' := by
  have hs' : s.size ≤ maxLen := by unfold maxLen; omega
  have hcount := allOf_count s.data.toList
  rw [len_of] at hcount
  refine (callsIn_wide (n := 7)).1 ?_
  refine callsIn_of_wp_marks Try.func6 rfl trivial ?_ rfl
  simp only [Try.ntmps6, List.size_toArray, List.length_cons, List.length_nil, Nat.reduceAdd, Nat.reduceSub, Array.replicate_succ, Array.replicate_zero, List.push_toArray, List.append_toArray, List.nil_append, List.cons_append]
  gi_wp2_with fail
  refine ⟨trivial, ?_⟩
  refine (callsIn_wide.2 (sealAlive_any _)).mono ?_
  rintro e w1 ⟨rfl, hb1⟩
  have bS := Boxed.new w 3 (.int .i64 stop)
  have bR := Boxed.new (w.alloc (.cells #[.int .i64 stop] 3)) 4 (.bool false)
  simp only [World.size_alloc] at bR
  have hB1 : Below w.heap.size w w1 := (((Below.refl _ w).alloc (Nat.le_refl _) _).alloc (by simp) _).trans (hb1.mono (by simp; omega))
  have bS1 : Boxed w1 w.heap.size 3 (.int .i64 stop) := (hb1.block _ (by simp; omega)).trans (bS.alloc _)
  have bR1 : Boxed w1 (w.heap.size + 1) 4 (.bool false) := (hb1.block _ (by simp)).trans bR
  clear bS bR hb1
  gi_wp2_with fail
  refine ⟨trivial, ?_⟩
  refine (callsIn_wide.2 (all_in s hs' (by omega) _)).mono ?_
  rintro e w2 ⟨v, rfl, ho2, hb2⟩
  have hB2 := hB1.trans (hb2.mono hB1.size)
  have bS2 : Boxed w2 w.heap.size 3 (.int .i64 stop) := (hb2.block _ bS1.lt).trans bS1
  have bR2 : Boxed w2 (w.heap.size + 1) 4 (.bool false) := (hb2.block _ bR1.lt).trans bR1
  clear bS1 bR1
  gi_wp2_with fail
  refine ⟨trivial, ?_⟩
  refine (callsIn_wide.2 (refAll_any s hs' (by omega) _)).mono ?_
  rintro e w3 ⟨vm, va, rfl, hm3, ha3, hb3⟩
  have hB3 := hB2.trans (hb3.mono hB2.size)
  have bS3 : Boxed w3 w.heap.size 3 (.int .i64 stop) := (hb3.block _ bS2.lt).trans bS2
  have bR3 : Boxed w3 (w.heap.size + 1) 4 (.bool false) := (hb3.block _ bR2.lt).trans bR2
  have s1 := holds_bodies (scan s.data.toList 0).1 rfl (by unfold maxLen; omega) (ownsRow_below ho2 hb3)
  have s2 := holds_bodies (scan s.data.toList 0).1 rfl (by unfold maxLen; omega) hm3
  have s3 := holds_places (scan s.data.toList 0).1 rfl ha3
  clear bS2 bR2 ho2 hm3 ha3 hb2 hb3
  have s1' := s1
  have s2' := s2
  obtain ⟨al, cl, rfl, _, _⟩ := s1'
  obtain ⟨am, cm, rfl, _, hcm⟩ := s2'
  obtain ⟨aa, ca, rfl, hca⟩ := s3
  have hfr : (scan s.data.toList 0).1.length ≤ 1048576 := by omega
  have HM := hid (show ∀ j (h : j < (scan s.data.toList 0).1.length), ∃ b off, am = some ⟨b, off, none⟩ ∧ w3.cell? ⟨b, off + j, none⟩ = some (.string (str (scan s.data.toList 0).1[j].2)) from fun j hj => by
    obtain ⟨b, off, e, hc⟩ := hcm (by simp; omega)
    refine ⟨b, off, e, ?_⟩
    have := hc j (by simpa using hj)
    rw [List.getElem_map] at this
    exact this)
  have HA := hid (show ∀ j (h : j < (scan s.data.toList 0).1.length), ∃ b, aa = some ⟨b, 0, none⟩ ∧ w3.cell? ⟨b, j, none⟩ = some (.int .i64 ((scan s.data.toList 0).1[j].1 : Int)) from fun j hj => by
    obtain ⟨b, e, hc⟩ := hca (by simp; omega)
    refine ⟨b, e, ?_⟩
    have := hc j (by simpa using hj)
    rw [List.getElem_map] at this
    exact this)
  clear hcm hca
  simp only [List.length_map] at s1 s2 ⊢
  have HS1 := hid s1
  have HS2 := hid s2
  clear s1 s2 hcount
  gi_wp2_with fail
  refine ⟨trivial, ?_⟩
  have hbel : Below w3.heap.size w3 ((w3.alloc (.cells #[.slice am (scan s.data.toList 0).1.length cm] 38)).alloc (.cells #[.slice aa (scan s.data.toList 0).1.length ca] 41)) := ((Below.refl _ _).alloc (Nat.le_refl _) _).alloc (by simp) _
  refine (callsIn_wide.2 (same_true _ _ _ _ (holdsStrs_below HS1.out hbel) (holdsStrs_below HS2.out hbel))).mono ?_
  rintro e w4 ⟨rfl, hb4⟩
  have bM := Boxed.new w3 38 (.slice am (scan s.data.toList 0).1.length cm)
  have bA := Boxed.new (w3.alloc (.cells #[.slice am (scan s.data.toList 0).1.length cm] 38)) 41 (.slice aa (scan s.data.toList 0).1.length ca)
  simp only [World.size_alloc] at bA
  have hb34 : Below w3.heap.size w3 w4 := hbel.trans (hb4.mono hbel.size)
  have hsz4 : w3.heap.size + 2 ≤ w4.heap.size := by have := hb4.size; simp at this; omega
  have bM4 : Boxed w4 w3.heap.size 38 (.slice am (scan s.data.toList 0).1.length cm) := (hb4.block _ (by simp; omega)).trans (bM.alloc _)
  have bA4 : Boxed w4 (w3.heap.size + 1) 41 (.slice aa (scan s.data.toList 0).1.length ca) := (hb4.block _ (by simp)).trans bA
  have hB4 := hB3.trans (hb34.mono hB3.size)
  have bS4 : Boxed w4 w.heap.size 3 (.int .i64 stop) := (hb34.block _ bS3.lt).trans bS3
  have bR4 : Boxed w4 (w.heap.size + 1) 4 (.bool false) := (hb34.block _ bR3.lt).trans bR3
  have HM4 := hid (show ∀ j (h : j < (scan s.data.toList 0).1.length), ∃ b off, am = some ⟨b, off, none⟩ ∧ w4.cell? ⟨b, off + j, none⟩ = some (.string (str (scan s.data.toList 0).1[j].2)) from fun j hj => by
    obtain ⟨b, off, e, hc⟩ := HM.out j hj
    exact ⟨b, off, e, (hb34.cell (p := ⟨b, off + j, none⟩) (World.block_lt_of_cell? _ _ hc)).trans hc⟩)
  have HA4 := hid (show ∀ j (h : j < (scan s.data.toList 0).1.length), ∃ b, aa = some ⟨b, 0, none⟩ ∧ w4.cell? ⟨b, j, none⟩ = some (.int .i64 ((scan s.data.toList 0).1[j].1 : Int)) from fun j hj => by
    obtain ⟨b, e, hc⟩ := HA.out j hj
    exact ⟨b, e, (hb34.cell (p := ⟨b, j, none⟩) (World.block_lt_of_cell? _ _ hc)).trans hc⟩)
  clear hbel hb4 bM bA hb34 bS3 bR3 HM HA HS1 HS2 hB1 hB2 hB3
  gi_wp2_with fail
  refine wpIn_loop_rounds 3 ?_
  rw [roundsIn_succ]
  gi_wp2_with (refine ⟨trivial, ?_⟩; gi_at_call 19; refine (each_in _ s _).mono ?_; rintro e w' ⟨rfl, rfl⟩)
  have bT := Boxed.new w4 3 (.int .i64 0)
  have bI := Boxed.new (w4.alloc (.cells #[.int .i64 0] 3)) 3 (.int .i64 0)
  have bN := Boxed.new ((w4.alloc (.cells #[.int .i64 0] 3)).alloc (.cells #[.int .i64 0] 3)) 9 (.string s)
  simp only [World.size_alloc] at bI bN
  have bT := (bT.alloc (.cells #[.int .i64 0] 3)).alloc (.cells #[.string s] 9)
  have bI := bI.alloc (.cells #[.string s] 9)
  have hB0 : Below w4.heap.size w4 (((w4.alloc (.cells #[.int .i64 0] 3)).alloc (.cells #[.int .i64 0] 3)).alloc (.cells #[.string s] 9)) := (((Below.refl _ _).alloc (Nat.le_refl _) _).alloc (by simp) _).alloc (by simp; omega) _
  have hsz0 : (((w4.alloc (.cells #[.int .i64 0] 3)).alloc (.cells #[.int .i64 0] 3)).alloc (.cells #[.string s] 9)).heap.size = w4.heap.size + 3 := by simp
  generalize ((w4.alloc (.cells #[.int .i64 0] 3)).alloc (.cells #[.int .i64 0] 3)).alloc (.cells #[.string s] 9) = W0 at *
  have hBW := hB4.trans (hB0.mono hB4.size)
  have hwb : w.heap.size + 1 < w4.heap.size := bR4.lt
  refine wpIn_rangeFunc_join rfl (by omega) (gf := 23) (lb := #[.pointer (some ⟨w4.heap.size + 2, 0, none⟩)]) rfl trivial (enters_of Try.func23 (by kernel_rfl) rfl)
    (each_stops _ (by omega) (w4.heap.size + 2) w.heap.size s hs' W0 (by omega) bN.cell) keepsBox_t (keepsBox_b (by omega) (by omega)) (Below.refl _ _) (fun _ => rfl) 2
    (fun pre W => Boxed W (w4.heap.size + 1) 3 (.int .i64 (pre.length : Int)) ∧ Only (w4.heap.size + 1) W0 W ∧ Below w.heap.size w W ∧ pre <+: (scan s.data.toList 0).1)
    (fun pre W => Boxed W (w4.heap.size + 1) 3 (.int .i64 (pre.length : Int)) ∧ Only (w4.heap.size + 1) W0 W ∧ Below w.heap.size w W ∧ (pre.length : Int) = stop)
    (fun pre => ¬ pre <+: (scan s.data.toList 0).1)
    (OwnFrom.and (Own.from (boxed_own _ _ _) _) (OwnFrom.and (ownFrom_only (Nat.le_refl _)) (OwnFrom.and (ownFrom_below (Nat.le_refl _) (by omega)) (ownFrom_of _))))
    (OwnFrom.and (Own.from (boxed_own _ _ _) _) (OwnFrom.and (ownFrom_only (Nat.le_refl _)) (OwnFrom.and (ownFrom_below (Nat.le_refl _) (by omega)) (ownFrom_of _))))
    ⟨bI, Only.refl _ _, hBW, List.nil_prefix⟩ ?a1 ?assign (fun pre h hn => hn h) ?hq ?body ?both
  case assign =>
    intro l x W K hK
    gi_wp2
    exact hK
  case hq =>
    intro a W h
    simpa [Exit.then, Exit.inBlock] using h
  case body =>
    rintro l pre x W ⟨bi, hO, hB, hp⟩ hlt
    obtain ⟨b, off, rfl, hm4⟩ := HM4.out pre.length hlt
    obtain ⟨b', rfl, ha4⟩ := HA4.out pre.length hlt
    have cm0 := hO.cell ((hB0.cell (p := ⟨b, off + pre.length, none⟩) (World.block_lt_of_cell? _ _ hm4)).trans hm4) (by have := World.block_lt_of_cell? _ _ hm4; dsimp only at this ⊢; omega)
    have ca0 := hO.cell ((hB0.cell (p := ⟨b', pre.length, none⟩) (World.block_lt_of_cell? _ _ ha4)).trans ha4) (by have := World.block_lt_of_cell? _ _ ha4; dsimp only at this ⊢; omega)
    have cM := (hO.boxed ((hB0.block _ bM4.lt).trans bM4) (by have := bM4.lt; omega)).cell
    have cA := (hO.boxed ((hB0.block _ bA4.lt).trans bA4) (by have := bA4.lt; omega)).cell
    have bR := hO.boxed ((hB0.block _ bR4.lt).trans bR4) (by omega)
    have cR := bR.cell
    have fR := bR.frozen
    have cT := (hO.boxed bT (by omega)).cell
    have cS := (hO.boxed ((hB0.block _ bS4.lt).trans bS4) (by omega)).cell
    have cI := bi.cell
    have fI := bi.frozen
    have HP := hid hp
    have HL := hid (prefix_step hp hlt)
    have HNX := hid (fun (h : pre ++ [x] <+: (scan s.data.toList 0).1) => prefix_next h hlt)
    clear hp hm4 ha4
    generalize (scan s.data.toList 0).1[pre.length] = y at *
    have hpl : pre.length < 1048576 := by omega
    by_cases hx1 : x.1 = y.1
    · by_cases hx2 : x.2 = y.2
      · have t1 : (((x.1 : Nat) : Int) != ((y.1 : Nat) : Int)) = false := by rw [bne_eq_false_iff_eq, hx1]
        have t2 : ((str x.2).toList == (str y.2).toList) = true := by rw [str_beq, hx2]; simp
        have hxy : x = y := Prod.ext hx1 hx2
        clear hx1 hx2
        subst hxy
        have hb3 := (Below.refl w.heap.size W).setCell (p := ⟨w4.heap.size + 1, 0, none⟩) (by dsimp only; omega) (.int .i64 ((pre.length : Int) + 1))
        have hbi := bi.set (.int .i64 ((pre.length : Int) + 1))
        have hO2 := hO.set (.int .i64 ((pre.length : Int) + 1))
        have HN2 := hid (show (W.setCell ⟨w4.heap.size + 1, 0, none⟩ (.int .i64 ((pre.length : Int) + 1))).heap[w4.heap.size + 2]? = W.heap[w4.heap.size + 2]? from Below.heap_setCell _ _ _ _ (by dsimp only; omega))
        have HPL := hid (show (((pre ++ [x]).length : Nat) : Int) = (pre.length : Int) + 1 by simp)
        by_cases hst : (pre.length : Int) + 1 = stop
        · have t3 : (((pre.length : Nat) : Int) + 1 == stop) = true := beq_iff_eq.2 hst
          have HST := hid hst
          clear hst
          gi_wp2
          refine ⟨(KeepsOthers.setCell _ _ _).from _, .inl ⟨rfl, ?_, hO2, hB.trans hb3, ?_⟩⟩
          · rw [HPL.out]; exact hbi
          · rw [HPL.out]; exact HST.out
        · have t3 : (((pre.length : Nat) : Int) + 1 == stop) = false := beq_eq_false_iff_ne.2 hst
          clear hst
          gi_wp2
          refine ⟨(KeepsOthers.setCell _ _ _).from _, ⟨hb3, HN2.out⟩, ?_, hO2, hB.trans hb3, HL.out⟩
          rw [HPL.out]; exact hbi
      · have t1 : (((x.1 : Nat) : Int) != ((y.1 : Nat) : Int)) = false := by rw [bne_eq_false_iff_eq, hx1]
        have t2 : ((str x.2).toList == (str y.2).toList) = false := by rw [str_beq]; simpa using hx2
        have hne : ¬ pre ++ [x] <+: (scan s.data.toList 0).1 := fun h => hx2 (by rw [HNX.out h])
        clear hx1 hx2
        gi_wp2
        exact ⟨(KeepsOthers.setCell _ _ _).from _, .inr ⟨rfl, hne⟩⟩
    · have t1 : (((x.1 : Nat) : Int) != ((y.1 : Nat) : Int)) = true := by rw [bne_iff_ne]; omega
      have hne : ¬ pre ++ [x] <+: (scan s.data.toList 0).1 := fun h => hx1 (by rw [HNX.out h])
      clear hx1
      gi_wp2
      exact ⟨(KeepsOthers.setCell _ _ _).from _, .inr ⟨rfl, hne⟩⟩
  case both =>
    rintro D pre W hD hcase hK
    have hcom : Boxed W (w4.heap.size + 1) 3 (.int .i64 (pre.length : Int)) ∧ Only (w4.heap.size + 1) W0 W ∧ Below w.heap.size w W ∧ (pre.length = (scan s.data.toList 0).1.length ∨ (pre.length : Int) = stop) ∧ pre.length ≤ (scan s.data.toList 0).1.length := by
      rcases hcase with ⟨hS, a, b, c, d⟩ | ⟨hS, a, b, c, d⟩
      · exact ⟨a, b, c, .inl (by rw [hS]), d.length_le⟩
      · exact ⟨a, b, c, .inr d, hS.length_le⟩
    obtain ⟨bi, hO, hB, hend, hple⟩ := hcom
    clear hcase bI bN hB4
    have bMW := hO.boxed ((hB0.block _ bM4.lt).trans bM4) (by have := bM4.lt; omega)
    have bAW := hO.boxed ((hB0.block _ bA4.lt).trans bA4) (by have := bA4.lt; omega)
    have bRW := hO.boxed ((hB0.block _ bR4.lt).trans bR4) (by omega)
    have bTW := hO.boxed bT (by omega)
    have bSW := hO.boxed ((hB0.block _ bS4.lt).trans bS4) (by omega)
    have HMW := hid (show ∀ j (h : j < (scan s.data.toList 0).1.length), ∃ b off, am = some ⟨b, off, none⟩ ∧ b < w4.heap.size ∧ W.cell? ⟨b, off + j, none⟩ = some (.string (str (scan s.data.toList 0).1[j].2)) from fun j hj => by
      obtain ⟨b, off, e, hc⟩ := HM4.out j hj
      have hlt := World.block_lt_of_cell? _ _ hc
      exact ⟨b, off, e, hlt, hO.cell ((hB0.cell (p := ⟨b, off + j, none⟩) hlt).trans hc) (by dsimp only at hlt ⊢; omega)⟩)
    have HAW := hid (show ∀ j (h : j < (scan s.data.toList 0).1.length), ∃ b, aa = some ⟨b, 0, none⟩ ∧ b < w4.heap.size ∧ W.cell? ⟨b, j, none⟩ = some (.int .i64 ((scan s.data.toList 0).1[j].1 : Int)) from fun j hj => by
      obtain ⟨b, e, hc⟩ := HA4.out j hj
      have hlt := World.block_lt_of_cell? _ _ hc
      exact ⟨b, e, hlt, hO.cell ((hB0.cell (p := ⟨b, j, none⟩) hlt).trans hc) (by dsimp only at hlt ⊢; omega)⟩)
    have hWsz := hO.size
    have cI := bi.cell
    have cM := bMW.cell
    have cT := bTW.cell
    have cS := bSW.cell
    have hlast : (((pre.length : Nat) : Int) != (((scan s.data.toList 0).1.length : Nat) : Int)) = false ∨ ((((pre.length : Nat) : Int) != (((scan s.data.toList 0).1.length : Nat) : Int)) = true ∧ (((pre.length : Nat) : Int) != stop) = false) := by
      by_cases h : pre.length = (scan s.data.toList 0).1.length
      · exact .inl (by rw [bne_eq_false_iff_eq]; omega)
      · exact .inr ⟨by rw [bne_iff_ne]; omega, by rw [bne_eq_false_iff_eq]; rcases hend with h' | h'; exact absurd h' h; exact h'⟩
    clear hend bM4 bA4 bR4 bT bS4 HM4 HA4
    rcases hlast with t1 | ⟨t1, t2⟩
    all_goals
      gi_wp2
      clear cI cM cT cS
      rw [roundsIn_succ]
      gi_wp2_with (refine ⟨trivial, ?_⟩; gi_at_call 19; refine (each_in _ s _).mono ?_; rintro e w' ⟨rfl, rfl⟩)
      have bT := Boxed.new W 3 (.int .i64 1)
      have bI := Boxed.new (W.alloc (.cells #[.int .i64 1] 3)) 3 (.int .i64 0)
      have bN := Boxed.new ((W.alloc (.cells #[.int .i64 1] 3)).alloc (.cells #[.int .i64 0] 3)) 9 (.string s)
      simp only [World.size_alloc] at bI bN
      have bT := (bT.alloc (.cells #[.int .i64 0] 3)).alloc (.cells #[.string s] 9)
      have bI := bI.alloc (.cells #[.string s] 9)
      have hBV : Below W.heap.size W (((W.alloc (.cells #[.int .i64 1] 3)).alloc (.cells #[.int .i64 0] 3)).alloc (.cells #[.string s] 9)) := (((Below.refl _ _).alloc (Nat.le_refl _) _).alloc (by simp) _).alloc (by simp; omega) _
      have hszV : (((W.alloc (.cells #[.int .i64 1] 3)).alloc (.cells #[.int .i64 0] 3)).alloc (.cells #[.string s] 9)).heap.size = W.heap.size + 3 := by simp
      generalize (((W.alloc (.cells #[.int .i64 1] 3)).alloc (.cells #[.int .i64 0] 3)).alloc (.cells #[.string s] 9)) = V0 at *
      have hBW2 := hB.trans (hBV.mono hB.size)
      have hwb2 : w4.heap.size + 3 ≤ W.heap.size := by omega
      refine wpIn_rangeFunc_join rfl (by omega) (gf := 23) (lb := #[.pointer (some ⟨W.heap.size + 2, 0, none⟩)]) rfl trivial (enters_of Try.func23 (by kernel_rfl) rfl)
        (each_stops _ (by omega) (W.heap.size + 2) w.heap.size s hs' V0 (by omega) bN.cell) keepsBox_t (keepsBox_b (by omega) (by omega)) (Below.refl _ _) (fun _ => rfl) 2
        (fun pre U => Boxed U (W.heap.size + 1) 3 (.int .i64 (pre.length : Int)) ∧ Only (W.heap.size + 1) V0 U ∧ Below w.heap.size w U ∧ pre <+: (scan s.data.toList 0).1)
        (fun _ _ => False)
        (fun pre => ¬ pre <+: (scan s.data.toList 0).1)
        (OwnFrom.and (Own.from (boxed_own _ _ _) _) (OwnFrom.and (ownFrom_only (Nat.le_refl _)) (OwnFrom.and (ownFrom_below (Nat.le_refl _) (by omega)) (ownFrom_of _))))
        (fun _ _ _ _ h _ _ => h)
        ⟨bI, Only.refl _ _, hBW2, List.nil_prefix⟩ ?_ ?_ (fun pre h hn => hn h) ?_ ?_ ?_
      rotate_left
      · intro l x U K hK
        gi_wp2
        exact hK
      · intro a U h
        simpa [Exit.then, Exit.inBlock] using h
      · rintro l pre2 x U ⟨bi2, hO2, hBU, hp⟩ hlt
        obtain ⟨b, off, rfl, hbl, hm4⟩ := HMW.out pre2.length hlt
        obtain ⟨b', rfl, hbl', ha4⟩ := HAW.out pre2.length hlt
        have cm0 := hO2.cell ((hBV.cell (p := ⟨b, off + pre2.length, none⟩) (World.block_lt_of_cell? _ _ hm4)).trans hm4) (by dsimp only; omega)
        have ca0 := hO2.cell ((hBV.cell (p := ⟨b', pre2.length, none⟩) (World.block_lt_of_cell? _ _ ha4)).trans ha4) (by dsimp only; omega)
        have cM := (hO2.boxed ((hBV.block _ bMW.lt).trans bMW) (by have := bMW.lt; omega)).cell
        have cA := (hO2.boxed ((hBV.block _ bAW.lt).trans bAW) (by have := bAW.lt; omega)).cell
        have bR := hO2.boxed ((hBV.block _ bRW.lt).trans bRW) (by omega)
        have cR := bR.cell
        have fR := bR.frozen
        have cT := (hO2.boxed bT (by omega)).cell
        have cI := bi2.cell
        have fI := bi2.frozen
        have HL := hid (prefix_step hp hlt)
        have HNX := hid (fun (h : pre2 ++ [x] <+: (scan s.data.toList 0).1) => prefix_next h hlt)
        clear hp hm4 ha4
        generalize (scan s.data.toList 0).1[pre2.length] = y at *
        have hpl : pre2.length < 1048576 := by omega
        by_cases hx1 : x.1 = y.1
        · by_cases hx2 : x.2 = y.2
          · have t1 : (((x.1 : Nat) : Int) != ((y.1 : Nat) : Int)) = false := by rw [bne_eq_false_iff_eq, hx1]
            have t2 : ((str x.2).toList == (str y.2).toList) = true := by rw [str_beq, hx2]; simp
            have hxy : x = y := Prod.ext hx1 hx2
            clear hx1 hx2
            subst hxy
            have hb3 := (Below.refl w.heap.size U).setCell (p := ⟨W.heap.size + 1, 0, none⟩) (by dsimp only; omega) (.int .i64 ((pre2.length : Int) + 1))
            have hbi := bi2.set (.int .i64 ((pre2.length : Int) + 1))
            have hO3 := hO2.set (.int .i64 ((pre2.length : Int) + 1))
            have HN2 := hid (show (U.setCell ⟨W.heap.size + 1, 0, none⟩ (.int .i64 ((pre2.length : Int) + 1))).heap[W.heap.size + 2]? = U.heap[W.heap.size + 2]? from Below.heap_setCell _ _ _ _ (by dsimp only; omega))
            have HPL := hid (show (((pre2 ++ [x]).length : Nat) : Int) = (pre2.length : Int) + 1 by simp)
            gi_wp2
            refine ⟨(KeepsOthers.setCell _ _ _).from _, ⟨hb3, HN2.out⟩, ?_, hO3, hBU.trans hb3, HL.out⟩
            rw [HPL.out]; exact hbi
          · have t1 : (((x.1 : Nat) : Int) != ((y.1 : Nat) : Int)) = false := by rw [bne_eq_false_iff_eq, hx1]
            have t2 : ((str x.2).toList == (str y.2).toList) = false := by rw [str_beq]; simpa using hx2
            have hne : ¬ pre2 ++ [x] <+: (scan s.data.toList 0).1 := fun h => hx2 (by rw [HNX.out h])
            clear hx1 hx2
            gi_wp2
            exact ⟨(KeepsOthers.setCell _ _ _).from _, .inr ⟨rfl, hne⟩⟩
        · have t1 : (((x.1 : Nat) : Int) != ((y.1 : Nat) : Int)) = true := by rw [bne_iff_ne]; omega
          have hne : ¬ pre2 ++ [x] <+: (scan s.data.toList 0).1 := fun h => hx1 (by rw [HNX.out h])
          clear hx1
          gi_wp2
          exact ⟨(KeepsOthers.setCell _ _ _).from _, .inr ⟨rfl, hne⟩⟩
      · rintro D2 pre2 U hD2 hcase hK2
        obtain ⟨rfl, bi2, hO2, hBU, _⟩ : pre2 = (scan s.data.toList 0).1 ∧ Boxed U (W.heap.size + 1) 3 (.int .i64 (pre2.length : Int)) ∧ Only (W.heap.size + 1) V0 U ∧ Below w.heap.size w U ∧ pre2 <+: (scan s.data.toList 0).1 := by
          rcases hcase with h | ⟨_, h⟩
          · exact h
          · exact h.elim
        have cM := (hO2.boxed ((hBV.block _ bMW.lt).trans bMW) (by have := bMW.lt; omega)).cell
        have bR := hO2.boxed ((hBV.block _ bRW.lt).trans bRW) (by omega)
        have cR := bR.cell
        have fR := bR.frozen
        have cT := (hO2.boxed bT (by omega)).cell
        have cI := bi2.cell
        have t9 : ((((scan s.data.toList 0).1.length : Nat) : Int) != (((scan s.data.toList 0).1.length : Nat) : Int)) = false := by simp
        have bR3 := bR.alloc (.cells #[.int .i64 2] 3)
        have cR3 := bR3.cell
        have fR3 := bR3.frozen
        clear cR fR
        gi_wp2
        rw [roundsIn_succ]
        gi_wp2
        have hDW : D < W.heap.size := (Array.getElem?_eq_some_iff.1 hK).1
        have hKU : U.heap[D]? = some (.deferred (some [])) := ((hO2.block D (by omega) (by omega)).trans (hBV.block D hDW)).trans hK
        have hD2U : D2 < U.heap.size := (Array.getElem?_eq_some_iff.1 hK2).1
        have hDU : D < U.heap.size := (Array.getElem?_eq_some_iff.1 hKU).1
        have k2 : ((U.alloc (.cells #[.int .i64 2] 3)).setCell ⟨w.heap.size + 1, 0, none⟩ (.bool true)).heap[D2]? = some (.deferred (some [])) :=
          (Below.heap_setCell _ _ _ _ (by dsimp only; omega)).trans ((Below.heap_alloc _ _ _ hD2U).trans hK2)
        have k1 : ((U.alloc (.cells #[.int .i64 2] 3)).setCell ⟨w.heap.size + 1, 0, none⟩ (.bool true)).heap[D]? = some (.deferred (some [])) :=
          (Below.heap_setCell _ _ _ _ (by dsimp only; omega)).trans ((Below.heap_alloc _ _ _ hDU).trans hKU)
        have bZ := bR3.set (.bool true)
        have hBZ := (hBU.alloc hBU.size (.cells #[.int .i64 2] 3)).setCell (p := ⟨w.heap.size + 1, 0, none⟩) (Nat.le_succ _) (.bool true)
        generalize (U.alloc (.cells #[.int .i64 2] 3)).setCell ⟨w.heap.size + 1, 0, none⟩ (.bool true) = X at *
        have k1' : (X.putObj D2 (.deferred none)).heap[D]? = some (.deferred (some [])) := (World.putObj_heap_other (by omega)).trans k1
        have c1 : ((X.putObj D2 (.deferred none)).putObj D (.deferred none)).cell? ⟨w.heap.size + 1, 0, none⟩ = some (.bool true) :=
          (World.cell?_of_block (w := X) ((World.putObj_heap_other (by dsimp only; omega)).trans (World.putObj_heap_other (by dsimp only; omega)))).trans bZ.cell
        have hBe := (hBZ.trans (belowK_b (w := w) (Nat.le_refl _) X D2 _ (.deferred none) (by omega) k2 rfl rfl)).trans (belowK_b (w := w) (Nat.le_refl _) _ D _ (.deferred none) (by omega) k1' rfl rfl)
        refine ⟨by simp, .inl ⟨_, _, rfl, run_takeDeferred k2, by simp, .inl ⟨_, _, rfl, run_takeDeferred k1', ?_⟩⟩⟩
        exact ⟨.bool true, by simp [results, Try.results6, go_sem, c1], rfl, hBe⟩
theorem sealAll_walk (s : ByteArray) (_h : s.size ≤ maxLen) (hs : s.size ≤ 1048576) (stop : Int) (_h2 : (Lit.int .i64 stop).wf = true) (w : World) :
    Calls Try.prog 6 #[.string s, .int .i64 stop] w fun e W' => e = .returned (.bool true) ∧ Below w.heap.size w W' := sealAll_core s hs stop w
end Go.Proofs.Ytndafpmngfcibaa
