/-
  The walk of the journal's Rebase.
-/
import Derived.Test.YtmehcogaopackaaGreatJAppend
import Derived.Test.YtmehcogaopackaaGreatGC
namespace Go.Proofs.YtmehcogaopackaaGreat
open Go.RowKit
set_option linter.unusedVariables false
set_option linter.unusedSimpArgs false
/-- may a log and an image be -/
def logBad (g : Lg) (image : Bytes) : Prop := members g.conf = false ∨ 4611686018427387904 < g.base ∨ 262144 < image.length ∨ anyBad g.l = true
instance (g : Lg) (image : Bytes) : Decidable (logBad g image) := by unfold logBad; exact inferInstance
/-- what Rebase does -/
def jRebase (d : Ds) (S : Js) (g : Lg) (image : Bytes) : Ds × Js × Nat :=
  if logBad g image then (d, S, 1) else
  if (Ds.sync' (d.puts (fileB ⟨S.hard, g, image⟩))).2 ≠ 0 then ((Ds.sync' (d.puts (fileB ⟨S.hard, g, image⟩))).1, S, (Ds.sync' (d.puts (fileB ⟨S.hard, g, image⟩))).2) else
  ((Ds.sync' (d.puts (fileB ⟨S.hard, g, image⟩))).1, ⟨S.hard, g, image⟩, 0)
/-- the journal's cells and the box of a log, and the world below -/
def RbAt (j bk : Nat) (jc lc : Array Value) (W W' : World) : Prop := W'.heap[j]? = some (.cells jc 107) ∧ W'.heap[bk]? = some (.cells lc 49) ∧ Below W.heap.size W W'
theorem RbAt.below {j bk : Nat} {jc lc : Array Value} {W W1 W2 : World} (h : RbAt j bk jc lc W W1) (hb : Below W1.heap.size W1 W2) : RbAt j bk jc lc W W2 := ⟨blk_below h.1 hb, blk_below h.2.1 hb, h.2.2.trans (hb.mono h.2.2.size)⟩
theorem conf_nats {conf : List Int} (h : members conf = true) : ∃ ns : List Nat, conf = (ns.map fun (n : Nat) => (n : Int)) ∧ ns.length ≤ 5 ∧ ∀ n ∈ ns, n < 1000 := by
  have hin := membersF_in conf none h
  have hl := members_len conf h
  refine ⟨conf.map Int.toNat, ?_, by simpa using hl, ?_⟩
  · rw [List.map_map]
    have : conf.map ((fun (n : Nat) => (n : Int)) ∘ Int.toNat) = conf.map id := List.map_congr_left (fun n hn => by have := hin n hn; simp only [Function.comp, id]; omega)
    rw [this, List.map_id]
  · intro n hn
    simp only [List.mem_map] at hn
    obtain ⟨m, hm, rfl⟩ := hn
    have := hin m hm
    omega
theorem whole_js {S : Js} (h : JsOk S) (hl : S.log.l.length ≤ 1000000) (z : Nat) (vc vl : Value) (w : World) (hc : Cells [] w vc S.log.conf.length (intVals S.log.conf)) (hv : Cells [] w vl S.log.l.length (enVals S.log.l)) :
    Calls Tryz.prog 43 #[.agg (stCells S z vc vl)] w fun e w' => e = .returned (.string (str (fileB S))) ∧ Below w.heap.size w w' := by
  obtain ⟨⟨t, v, lf⟩, ⟨b, bt, conf, l⟩, im⟩ := S
  obtain ⟨h1, h2, h3, h4, h5, h6, h7, h8⟩ := h
  simp only at h1 h2 h3 h4 h5 h6 h7 h8 hl hc hv
  obtain ⟨ns, rfl, hn1, hn2⟩ := conf_nats h6
  obtain ⟨vn, rfl⟩ := Int.eq_ofNat_of_zero_le h2.1
  rw [List.length_map] at hc
  exact whole_at t vn lf b bt z ns l im _ rfl vc vl w hc hv h1 (by omega) h3 h4 h5 hn1 hn2 hl h7 h8
theorem fileB_len {S : Js} (h : JsOk S) (hl : S.log.l.length ≤ 1000000) : (fileB S).length ≤ 1099511627776 := by
  have hc := members_len _ h.2.2.2.2.2.1
  have hb : (frame (baseBody S.log S.image.length)).length ≤ 70000 := by
    rw [frame_length]
    unfold baseBody nums
    simp only [List.length_append]
    have e1 := num_len 1
    have e2 := num_len S.log.base
    have e3 := num_len S.log.bterm
    have e4 := num_len (S.log.conf.map Int.toNat).length
    have e5 := flat_len (S.log.conf.map Int.toNat)
    have e6 := num_len S.image.length
    rw [List.length_map] at e4 e5
    simp only [List.length_map]
    omega
  have h1 : ∀ x ∈ fileL S, x.length ≤ 70000 := by
    intro x hx
    unfold fileL at hx
    rcases List.mem_cons.1 hx with rfl | hx
    · exact hb
    · rcases List.mem_append.1 hx with hx | hx
      · simp only [List.mem_map] at hx
        obtain ⟨p, hp, rfl⟩ := hx
        exact pieceRec_len p (chunks_le S.image.length S.image (Nat.le_refl _) p hp)
      · rcases List.mem_cons.1 hx with rfl | hx
        · exact hardRec_len _
        · exact entRecs_le _ _ (fun e he => mayEn_data (h.2.2.2.2.2.2.1 e he).2) x hx
  have h2 := flatten_le 70000 (fileL S) h1
  have h3 : (fileL S).length ≤ 2 + 262144 + 1000000 := by
    unfold fileL
    simp only [List.length_cons, List.length_append, List.length_map]
    have := chunks_len S.image.length S.image (Nat.le_refl _)
    have := entRecs_length S.log.l (S.log.base + 1)
    have := h.2.2.2.2.2.2.2
    omega
  have h4 : 70000 * (fileL S).length ≤ 70000 * (2 + 262144 + 1000000) := Nat.mul_le_mul_left _ h3
  unfold fileB
  omega
theorem JnAt.restate {W W' : World} {j p : Nat} {G : List Nat} {d : Ds} {S S' : Js} (h : JnAt W j p G d S) {z : Nat} {vc vl : Value} (t : Turn [j] W W') (hj : W'.heap[j]? = some (.cells (jnCells p S' z vc vl) 107)) (hB1 : ∀ r, vc.ownBlock = some r → r ∉ G) (hB2 : ∀ r, vl.ownBlock = some r → r ∉ G) {B : Nat}
    (hrc : W'.ownsRow B 3 1 vc S'.log.conf.length (intVals S'.log.conf)) (hrl : W'.ownsRow B 116 3 vl S'.log.l.length (enVals S'.log.l)) (hok : JsOk S') (hz : z ≤ 262144) (hn : S'.log.l.length ≤ 1000000) :
    JnAt W' j p (ownL vc ++ (ownL vl ++ G)) d S' := by
  obtain ⟨F, z0, vc0, vl0, h1, h2, h3, h4, h5, h6, h6', h7, h8, h9, h10, h11, h12⟩ := h
  refine ⟨F, z, vc, vl, hj, h2.turn t (by simpa using h8), ownsRow_mono hrc (Nat.zero_le _), ownsRow_mono hrl (Nat.zero_le _), hok, hz, hn, by simp [h7], h8, fun b hb => by simp [h9 b hb], ?_, ?_, ?_⟩
  · intro r hr
    exact ⟨by simp [mem_ownL.2 hr], fun hm => hB1 r hr (h9 r hm)⟩
  · intro r hr
    exact ⟨by simp [mem_ownL.2 hr], fun hm => hB2 r hr (h9 r hm)⟩
  · intro b hb
    rcases List.mem_append.1 hb with hb | hb
    · exact (hrc.lt b (mem_ownL.1 hb)).2
    · rcases List.mem_append.1 hb with hb | hb
      · exact (hrl.lt b (mem_ownL.1 hb)).2
      · exact Nat.lt_of_lt_of_le (h12 b hb) t.size
set_option maxHeartbeats 2000000 in
theorem set_state {W : World} {j p : Nat} {S S' : Js} {z z' : Nat} {vc vl vc' vl' : Value} (h : W.heap[j]? = some (.cells (jnCells p S z vc vl) 107)) :
    Turn [j] W (((((((((W.setCell ⟨j, 1, none⟩ (.int .u64 S'.hard.term)).setCell ⟨j, 2, none⟩ (.int .i64 S'.hard.vote)).setCell ⟨j, 3, none⟩ (.int .u64 S'.hard.life)).setCell ⟨j, 4, none⟩ (.int .u64 S'.log.base)).setCell ⟨j, 5, none⟩ (.int .u64 S'.log.bterm)).setCell ⟨j, 6, none⟩ vc').setCell ⟨j, 7, none⟩ vl').setCell ⟨j, 8, none⟩ (.string (str S'.image))).setCell ⟨j, 9, none⟩ (.int .u64 z')) ∧
    (((((((((W.setCell ⟨j, 1, none⟩ (.int .u64 S'.hard.term)).setCell ⟨j, 2, none⟩ (.int .i64 S'.hard.vote)).setCell ⟨j, 3, none⟩ (.int .u64 S'.hard.life)).setCell ⟨j, 4, none⟩ (.int .u64 S'.log.base)).setCell ⟨j, 5, none⟩ (.int .u64 S'.log.bterm)).setCell ⟨j, 6, none⟩ vc').setCell ⟨j, 7, none⟩ vl').setCell ⟨j, 8, none⟩ (.string (str S'.image))).setCell ⟨j, 9, none⟩ (.int .u64 z')).heap[j]? = some (.cells (jnCells p S' z' vc' vl') 107) := by
  have hs : ∀ (W : World) (o : Nat) (v : Value), Turn [j] W (W.setCell ⟨j, o, none⟩ v) := fun W o v => Turn.set W j o v (by simp)
  have ht : ∀ {A B C : World}, Turn [j] A B → Turn [j] B C → Turn [j] A C := fun a b => a.trans b (fun _ h => .inl h)
  have a1 : (W.setCell ⟨j, 1, none⟩ (.int .u64 S'.hard.term)).heap[j]? = some (.cells #[.pointer (some ⟨p, 0, none⟩), .int .u64 S'.hard.term, .int .i64 S.hard.vote, .int .u64 S.hard.life, .int .u64 S.log.base, .int .u64 S.log.bterm, vc, vl, .string (str S.image), .int .u64 z] 107) := heap_set h 1 _
  have a2 : ((W.setCell ⟨j, 1, none⟩ (.int .u64 S'.hard.term)).setCell ⟨j, 2, none⟩ (.int .i64 S'.hard.vote)).heap[j]? = some (.cells #[.pointer (some ⟨p, 0, none⟩), .int .u64 S'.hard.term, .int .i64 S'.hard.vote, .int .u64 S.hard.life, .int .u64 S.log.base, .int .u64 S.log.bterm, vc, vl, .string (str S.image), .int .u64 z] 107) := heap_set a1 2 _
  have a3 : (((W.setCell ⟨j, 1, none⟩ (.int .u64 S'.hard.term)).setCell ⟨j, 2, none⟩ (.int .i64 S'.hard.vote)).setCell ⟨j, 3, none⟩ (.int .u64 S'.hard.life)).heap[j]? = some (.cells #[.pointer (some ⟨p, 0, none⟩), .int .u64 S'.hard.term, .int .i64 S'.hard.vote, .int .u64 S'.hard.life, .int .u64 S.log.base, .int .u64 S.log.bterm, vc, vl, .string (str S.image), .int .u64 z] 107) := heap_set a2 3 _
  have a4 : ((((W.setCell ⟨j, 1, none⟩ (.int .u64 S'.hard.term)).setCell ⟨j, 2, none⟩ (.int .i64 S'.hard.vote)).setCell ⟨j, 3, none⟩ (.int .u64 S'.hard.life)).setCell ⟨j, 4, none⟩ (.int .u64 S'.log.base)).heap[j]? = some (.cells #[.pointer (some ⟨p, 0, none⟩), .int .u64 S'.hard.term, .int .i64 S'.hard.vote, .int .u64 S'.hard.life, .int .u64 S'.log.base, .int .u64 S.log.bterm, vc, vl, .string (str S.image), .int .u64 z] 107) := heap_set a3 4 _
  have a5 : (((((W.setCell ⟨j, 1, none⟩ (.int .u64 S'.hard.term)).setCell ⟨j, 2, none⟩ (.int .i64 S'.hard.vote)).setCell ⟨j, 3, none⟩ (.int .u64 S'.hard.life)).setCell ⟨j, 4, none⟩ (.int .u64 S'.log.base)).setCell ⟨j, 5, none⟩ (.int .u64 S'.log.bterm)).heap[j]? = some (.cells #[.pointer (some ⟨p, 0, none⟩), .int .u64 S'.hard.term, .int .i64 S'.hard.vote, .int .u64 S'.hard.life, .int .u64 S'.log.base, .int .u64 S'.log.bterm, vc, vl, .string (str S.image), .int .u64 z] 107) := heap_set a4 5 _
  have a6 : ((((((W.setCell ⟨j, 1, none⟩ (.int .u64 S'.hard.term)).setCell ⟨j, 2, none⟩ (.int .i64 S'.hard.vote)).setCell ⟨j, 3, none⟩ (.int .u64 S'.hard.life)).setCell ⟨j, 4, none⟩ (.int .u64 S'.log.base)).setCell ⟨j, 5, none⟩ (.int .u64 S'.log.bterm)).setCell ⟨j, 6, none⟩ (vc')).heap[j]? = some (.cells #[.pointer (some ⟨p, 0, none⟩), .int .u64 S'.hard.term, .int .i64 S'.hard.vote, .int .u64 S'.hard.life, .int .u64 S'.log.base, .int .u64 S'.log.bterm, vc', vl, .string (str S.image), .int .u64 z] 107) := heap_set a5 6 _
  have a7 : (((((((W.setCell ⟨j, 1, none⟩ (.int .u64 S'.hard.term)).setCell ⟨j, 2, none⟩ (.int .i64 S'.hard.vote)).setCell ⟨j, 3, none⟩ (.int .u64 S'.hard.life)).setCell ⟨j, 4, none⟩ (.int .u64 S'.log.base)).setCell ⟨j, 5, none⟩ (.int .u64 S'.log.bterm)).setCell ⟨j, 6, none⟩ (vc')).setCell ⟨j, 7, none⟩ (vl')).heap[j]? = some (.cells #[.pointer (some ⟨p, 0, none⟩), .int .u64 S'.hard.term, .int .i64 S'.hard.vote, .int .u64 S'.hard.life, .int .u64 S'.log.base, .int .u64 S'.log.bterm, vc', vl', .string (str S.image), .int .u64 z] 107) := heap_set a6 7 _
  have a8 : ((((((((W.setCell ⟨j, 1, none⟩ (.int .u64 S'.hard.term)).setCell ⟨j, 2, none⟩ (.int .i64 S'.hard.vote)).setCell ⟨j, 3, none⟩ (.int .u64 S'.hard.life)).setCell ⟨j, 4, none⟩ (.int .u64 S'.log.base)).setCell ⟨j, 5, none⟩ (.int .u64 S'.log.bterm)).setCell ⟨j, 6, none⟩ (vc')).setCell ⟨j, 7, none⟩ (vl')).setCell ⟨j, 8, none⟩ (.string (str S'.image))).heap[j]? = some (.cells #[.pointer (some ⟨p, 0, none⟩), .int .u64 S'.hard.term, .int .i64 S'.hard.vote, .int .u64 S'.hard.life, .int .u64 S'.log.base, .int .u64 S'.log.bterm, vc', vl', .string (str S'.image), .int .u64 z] 107) := heap_set a7 8 _
  have a9 : (((((((((W.setCell ⟨j, 1, none⟩ (.int .u64 S'.hard.term)).setCell ⟨j, 2, none⟩ (.int .i64 S'.hard.vote)).setCell ⟨j, 3, none⟩ (.int .u64 S'.hard.life)).setCell ⟨j, 4, none⟩ (.int .u64 S'.log.base)).setCell ⟨j, 5, none⟩ (.int .u64 S'.log.bterm)).setCell ⟨j, 6, none⟩ (vc')).setCell ⟨j, 7, none⟩ (vl')).setCell ⟨j, 8, none⟩ (.string (str S'.image))).setCell ⟨j, 9, none⟩ (.int .u64 z')).heap[j]? = some (.cells #[.pointer (some ⟨p, 0, none⟩), .int .u64 S'.hard.term, .int .i64 S'.hard.vote, .int .u64 S'.hard.life, .int .u64 S'.log.base, .int .u64 S'.log.bterm, vc', vl', .string (str S'.image), .int .u64 z'] 107) := heap_set a8 9 _
  exact ⟨ht (ht (ht (ht (ht (ht (ht (ht (hs _ _ _) (hs _ _ _)) (hs _ _ _)) (hs _ _ _)) (hs _ _ _)) (hs _ _ _)) (hs _ _ _)) (hs _ _ _)) (hs _ _ _), a9⟩
/-- the journal's cells, and those of the state in block x -/
def RxAt (j x : Nat) (jc xc : Array Value) (W : World) : Prop := W.heap[j]? = some (.cells jc 107) ∧ W.heap[x]? = some (.cells xc 98)
theorem RxAt.turn {j x : Nat} {jc xc : Array Value} {W W' : World} (h : RxAt j x jc xc W) {F : List Nat} (t : Turn F W W') (h1 : j ∉ F) (h2 : x ∉ F) : RxAt j x jc xc W' :=
  ⟨(t.block (Array.getElem?_eq_some_iff.1 h.1).1 h1).trans h.1, (t.block (Array.getElem?_eq_some_iff.1 h.2).1 h2).trans h.2⟩
theorem boxLog (W : World) (cs : Array Value) : Below W.heap.size W (W.alloc (.cells cs 49)) := (Below.refl _ _).alloc (Nat.le_refl _) _
set_option maxRecDepth 100000 in
set_option maxHeartbeats 8000000 in
theorem rebase_any {W : World} {j p : Nat} {G : List Nat} {d : Ds} {S : Js} (h : JnAt W j p G d S) {n : Nat} (hok : d.Ok n) (hn : n ≤ 900000) (base bterm : Nat) (conf : List Int) (l : List En) (image : Bytes) (vc vl : Value)
    (hb : base < top64) (hbt : bterm < top64) (hvc : Cells [] W vc conf.length (intVals conf)) (hvl : Cells [] W vl l.length (enVals l)) (hc : conf.length ≤ 1000) (hl : l.length ≤ 1000) (he : ∀ e ∈ l, e.term < top64 ∧ e.data.length ≤ 1048576) (him : image.length ≤ 1048576) :
    Calls Tryz.prog 61 #[.pointer (some ⟨j, 0, none⟩), .agg #[.int .u64 base, .int .u64 bterm, vc, vl], .string (str image)] W fun e W' => e = .returned (.int .i64 ((jRebase d S ⟨base, bterm, conf, l⟩ image).2.2 : Nat)) ∧ JnAfter W j p G (jRebase d S ⟨base, bterm, conf, l⟩ image).1 (jRebase d S ⟨base, bterm, conf, l⟩ image).2.1 W' := by
  obtain ⟨ac, cc, rfl⟩ := hvc.form
  obtain ⟨al, cl, rfl⟩ := hvl.form
  have hb0 := boxLog W #[.int .u64 base, .int .u64 bterm, .slice ac conf.length cc, .slice al l.length cl]
  have hk0 := heap_alloc_new W (.cells #[.int .u64 base, .int .u64 bterm, .slice ac conf.length cc, .slice al l.length cl] 49)
  have HMB := hid (fun (W1 : World) (hb : Below W.heap.size W W1) => members_any conf _ [] W1 (hvc.below hb) (by omega))
  have HCB := hid (fun (W1 : World) (hb : Below W.heap.size W W1) => containsR_any (hvl.below hb) (by omega) (fun e he' => by have := (he e he').2; unfold maxLen; omega))
  have hzi : (str image).size = image.length := str_size _
  have HJB := hid (fun (hb : logBad ⟨base, bterm, conf, l⟩ image) => show jRebase d S ⟨base, bterm, conf, l⟩ image = (d, S, 1) from if_pos hb)
  have HJG := hid (fun (hb : ¬ logBad ⟨base, bterm, conf, l⟩ image) => show jRebase d S ⟨base, bterm, conf, l⟩ image = if (Ds.sync' (d.puts (fileB ⟨S.hard, ⟨base, bterm, conf, l⟩, image⟩))).2 ≠ 0 then ((Ds.sync' (d.puts (fileB ⟨S.hard, ⟨base, bterm, conf, l⟩, image⟩))).1, S, (Ds.sync' (d.puts (fileB ⟨S.hard, ⟨base, bterm, conf, l⟩, image⟩))).2) else
    ((Ds.sync' (d.puts (fileB ⟨S.hard, ⟨base, bterm, conf, l⟩, image⟩))).1, ⟨S.hard, ⟨base, bterm, conf, l⟩, image⟩, 0) from if_neg hb)
  have b0 := cell_in hk0 0 (.int .u64 base) rfl
  have b2 := cell_in hk0 2 (.slice ac conf.length cc) rfl
  have b3 := cell_in hk0 3 (.slice al l.length cl) rfl
  have HB0 := hid hb0
  have HK0 := hid hk0
  have H := hid h
  have HVC := hid hvc
  have HVL := hid hvl
  have HE := hid he
  clear h hb0 hk0 hvc hvl he
  go_enter Tryz.func61, Tryz.ntmps61
  go_wp2_with fail
  refine Calls.mono (HMB.out _ HB0.out) ?_
  rintro e w1 ⟨rfl, rfl⟩
  cases hm : members conf
  · as_aux_lemma =>
    have HJ1 := hid (HJB.out (.inl hm))
    clear HJG HJB hm
    go_wp2_with fail
    go_ret
    rw [HJ1.out]
    exact ⟨rfl, JnAfter.same H.out HB0.out⟩
  · by_cases hbb : 4611686018427387904 < base
    · as_aux_lemma =>
      have HJ1 := hid (HJB.out (.inr (.inl hbb)))
      have hbi : (4611686018427387904 : Int) < (base : Int) := by omega
      clear HJG HJB hm
      go_wp2_with fail
      go_ret
      rw [HJ1.out]
      exact ⟨rfl, JnAfter.same H.out HB0.out⟩
    · have hbi : ¬ ((4611686018427387904 : Int) < (base : Int)) := by omega
      by_cases hii : 262144 < image.length
      · as_aux_lemma =>
        have HJ1 := hid (HJB.out (.inr (.inr (.inl hii))))
        have hij : (262144 : Int) < (image.length : Int) := by omega
        clear HJG HJB hm
        go_wp2_with fail
        go_ret
        rw [HJ1.out]
        exact ⟨rfl, JnAfter.same H.out HB0.out⟩
      · have hij : ¬ ((262144 : Int) < (image.length : Int)) := by omega
        have HM := hid hm
        clear hm
        go_wp2_with fail
        refine Calls.mono (HCB.out _ HB0.out) ?_
        rintro e w2 ⟨rfl, hb2⟩
        cases hbad : anyBad l
        · have HJ1 := hid (HJG.out (by
            rintro (h1 | h1 | h1 | h1)
            · rw [HM.out] at h1; cases h1
            · exact hbb h1
            · exact hii h1
            · rw [hbad] at h1; cases h1))
          have HG := hid (anyBad_false hbad)
          have HB2 := hid (HB0.out.trans (hb2.mono HB0.out.size))
          have HK2 := hid (blk_below HK0.out hb2)
          have h2 := H.out.below HB2.out
          have hjo := h2.ok
          obtain ⟨F, g2, g9, g8, g7, gA⟩ := h2.opened
          obtain ⟨z2, vc2, vl2, g1, gr1, gr2⟩ := h2.cells
          have HG1 := hid g1
          have HD2 := hid g2
          have HFG := hid g9
          have HJF := hid g8
          have HGA := hid gA
          have HVC2 := hid (HVC.out.below HB2.out)
          have HVL2 := hid (HVL.out.below HB2.out)
          have HBK : Hid (W.heap.size < w2.heap.size) := (Array.getElem?_eq_some_iff.1 HK2.out).1
          have HSZ : Hid (∀ b ∈ G, b < W.heap.size) := H.out.lt
          have HJO := hid hjo
          clear hb2 hbad HJG HJB HMB HCB b0 b2 b3 g1 g2 g7 g8 g9 gA gr1 gr2 h2 HB0 HK0 hjo
          generalize hbk : W.heap.size = bk at *
          have HT2 : Hid (Turn G W w2) := Turn.below (by rw [hbk]; exact HB2.out)
          go_upto_region 3 with fail
          go_cut [7] from 9 (fun s7 w5 => ∃ (x : Nat) (vc' vl' : Value), s7 = .pointer (some ⟨x, 0, none⟩) ∧ w5.heap[x]? = some (.cells (stCells ⟨S.hard, ⟨base, bterm, conf, l⟩, image⟩ 0 vc' vl') 98) ∧ w2.heap.size ≤ x ∧ w5.ownsRow w2.heap.size 3 1 vc' conf.length (intVals conf) ∧ w5.ownsRow w2.heap.size 116 3 vl' l.length (enVals l) ∧ Below w2.heap.size w2 w5)
          case first =>
            have hS0 : RbAt j bk (jnCells p S z2 vc2 vl2) #[.int .u64 base, .int .u64 bterm, .slice ac conf.length cc, .slice al l.length cl] w2 w2.drew := ⟨HG1.out, HK2.out, (Below.refl _ _).drew⟩
            have HCO : Hid (∀ W' : World, RbAt j bk (jnCells p S z2 vc2 vl2) #[.int .u64 base, .int .u64 bterm, .slice ac conf.length cc, .slice al l.length cl] w2 W' → W'.cell? ⟨j, 1, none⟩ = some (.int .u64 S.hard.term) ∧ W'.cell? ⟨j, 2, none⟩ = some (.int .i64 S.hard.vote) ∧ W'.cell? ⟨j, 3, none⟩ = some (.int .u64 S.hard.life) ∧ W'.cell? ⟨bk, 0, none⟩ = some (.int .u64 base) ∧ W'.cell? ⟨bk, 1, none⟩ = some (.int .u64 bterm) ∧ W'.cell? ⟨bk, 2, none⟩ = some (.slice ac conf.length cc) ∧ W'.cell? ⟨bk, 3, none⟩ = some (.slice al l.length cl)) :=
              fun W' h => ⟨cell_in h.1 1 _ rfl, cell_in h.1 2 _ rfl, cell_in h.1 3 _ rfl, cell_in h.2.1 0 _ rfl, cell_in h.2.1 1 _ rfl, cell_in h.2.1 2 _ rfl, cell_in h.2.1 3 _ rfl⟩
            refine wp_region_held_drew (S := RbAt j bk (jnCells p S z2 vc2 vl2) #[.int .u64 base, .int .u64 bterm, .slice ac conf.length cc, .slice al l.length cl] w2) (by kernel_rfl) hS0 (fun hHeld => ?_)
            refine wpAnyH_takeD (i := 0) (d := 32) (v := .pointer (some ⟨j, 0, none⟩)) rfl rfl rfl (by kernel_rfl) (by kernel_rfl) (by kernel_rfl) (fun _ _ _ _ h => h) ?h0 hHeld ?_
            case h0 => intro w _; go_simp
            simp only [Act.put, List.setIfInBounds_toArray, List.set_cons_zero, List.set_cons_succ]
            refine wpAnyH_takeD (i := 1) (d := 33) (v := .pointer (some ⟨j, 0, none⟩)) rfl rfl rfl (by kernel_rfl) (by kernel_rfl) (by kernel_rfl) (fun _ _ _ _ h => h) ?h1 hHeld ?_
            case h1 => intro w _; go_simp
            simp only [Act.put, List.setIfInBounds_toArray, List.set_cons_zero, List.set_cons_succ]
            refine wpAnyH_takeD (i := 2) (d := 34) (v := .pointer (some ⟨j, 1, none⟩)) rfl rfl rfl (by kernel_rfl) (by kernel_rfl) (by kernel_rfl) (fun _ _ _ _ h => h) ?h2 hHeld ?_
            case h2 => intro w _; go_simp
            simp only [Act.put, List.setIfInBounds_toArray, List.set_cons_zero, List.set_cons_succ]
            refine wpAnyH_takeD (i := 3) (d := 35) (v := .pointer (some ⟨j, 1, none⟩)) rfl rfl rfl (by kernel_rfl) (by kernel_rfl) (by kernel_rfl) (fun _ _ _ _ h => h) ?h3 hHeld ?_
            case h3 => intro w _; go_simp
            simp only [Act.put, List.setIfInBounds_toArray, List.set_cons_zero, List.set_cons_succ]
            refine wpAnyH_takeD (i := 4) (d := 36) (v := .agg #[.int .u64 S.hard.term, .int .i64 S.hard.vote, .int .u64 S.hard.life]) rfl rfl rfl (by kernel_rfl) (by kernel_rfl) (by kernel_rfl) (fun _ _ _ _ h => h) ?h4 hHeld ?_
            case h4 => intro w hS; obtain ⟨e1, e2, e3, e4, e5, e6, e7⟩ := HCO.out w hS; go_simp
            simp only [Act.put, List.setIfInBounds_toArray, List.set_cons_zero, List.set_cons_succ]
            refine wpAnyH_takeD (i := 5) (d := 37) (v := .agg #[.int .u64 base, .int .u64 bterm, .slice ac conf.length cc, .slice al l.length cl]) rfl rfl rfl (by kernel_rfl) (by kernel_rfl) (by kernel_rfl) (fun _ _ _ _ h => h) ?h5 hHeld ?_
            case h5 => intro w hS; obtain ⟨e1, e2, e3, e4, e5, e6, e7⟩ := HCO.out w hS; go_simp
            simp only [Act.put, List.setIfInBounds_toArray, List.set_cons_zero, List.set_cons_succ]
            refine wpAnyH_takeD (i := 7) (d := 39) (v := .string (str image)) rfl rfl rfl (by kernel_rfl) (by kernel_rfl) (by kernel_rfl) (fun _ _ _ _ h => h) ?h7 hHeld ?_
            case h7 => intro w _; go_simp
            simp only [Act.put, List.setIfInBounds_toArray, List.set_cons_zero, List.set_cons_succ]
            refine wpAnyH_all (rs := [6, 9]) (by kernel_rfl) (by simp) (fun i hi => ?_)
            have hi' : i = 6 ∨ i = 9 := by simpa using hi
            rcases hi' with rfl | rfl
            · refine wpOp_plain rfl rfl ?_
              go_simp
              refine Calls.mono (clone_any (W := w2.drew) base bterm (by exact HVC2.out) (by exact HVL2.out) (by omega) (by omega)) ?_
              rintro e w5 ⟨vc', vl', rfl, r1, r2, hb5⟩
              obtain ⟨ac', cc', rfl⟩ := own_form r1
              obtain ⟨al', cl', rfl⟩ := own_form r2
              have hS5 := hS0.below hb5
              refine ⟨hS5, ?_⟩
              try simp only [Act.put, List.setIfInBounds_toArray, List.set_cons_zero, List.set_cons_succ]
              refine wpAnyH_takeD (i := 8) (d := 40) (v := .agg #[.int .u64 S.hard.term, .int .i64 S.hard.vote, .int .u64 S.hard.life, .int .u64 base, .int .u64 bterm, .slice ac' conf.length cc', .slice al' l.length cl', .string (str image), .int .u64 0]) rfl rfl rfl (by kernel_rfl) (by kernel_rfl) (by kernel_rfl) (fun _ _ _ _ h => h) ?k8 hS5 ?_
              case k8 => intro w _; go_simp
              try simp only [Act.put, List.setIfInBounds_toArray, List.set_cons_zero, List.set_cons_succ]
              refine wpAnyH_one (i := 9) rfl rfl (by kernel_rfl) ?_
              go_simp
              have hba := (Below.refl w5.heap.size w5).alloc (Nat.le_refl _) (.cells #[.int .u64 0, .int .i64 0, .int .u64 0, .int .u64 0, .int .u64 0, .slice none 0 0, .slice none 0 0, .string { data := #[] }, .int .u64 0] 98)
              refine ⟨hS5.below hba, ?_⟩
              try simp only [Act.put, List.setIfInBounds_toArray, List.set_cons_zero, List.set_cons_succ]
              refine wpAnyH_one (i := 10) rfl rfl (by kernel_rfl) ?_
              refine wp_store_row 98 _ _ rfl w5.heap.size #[.int .u64 S.hard.term, .int .i64 S.hard.vote, .int .u64 S.hard.life, .int .u64 base, .int .u64 bterm, .slice ac' conf.length cc', .slice al' l.length cl', .string (str image), .int .u64 0] (by rfl) (by rfl) 98 _ (heap_alloc_new w5 _) sizeSt rfl (by simp [Value.oneCell']) ?_
              have hbr : Below w5.heap.size w5 ((w5.alloc (.cells #[.int .u64 0, .int .i64 0, .int .u64 0, .int .u64 0, .int .u64 0, .slice none 0 0, .slice none 0 0, .string { data := #[] }, .int .u64 0] 98)).setRow w5.heap.size #[.int .u64 S.hard.term, .int .i64 S.hard.vote, .int .u64 S.hard.life, .int .u64 base, .int .u64 bterm, .slice ac' conf.length cc', .slice al' l.length cl', .string (str image), .int .u64 0]) := below_row hba (Nat.le_refl _) _
              refine ⟨hS5.below hbr, wpAnyH_done (by kernel_rfl) ?_ _⟩
              simp only [Act.put, List.getElem_toArray, List.getElem_cons_succ, List.getElem_cons_zero]
              go_wp2_with fail
              go_meet
              case rel => exact ⟨w5.heap.size, _, _, rfl, setRow_heap _ _ _ _ _ (0, 0) (heap_alloc_new w5 _), hb5.size, ownsRow_of_block r1 (fun r hr => hbr.block r (r1.lt r hr).2), ownsRow_of_block r2 (fun r hr => hbr.block r (r2.lt r hr).2), ⟨hbr.os.trans hb5.os, hbr.tape.trans hb5.tape, hbr.output.trans hb5.output, Nat.le_trans hb5.size hbr.size, fun b hb => (hbr.block b (Nat.lt_of_lt_of_le hb hb5.size)).trans (hb5.block b hb)⟩⟩
            · refine wpOp_plain rfl rfl ?_
              go_simp
              have hba : Below w2.heap.size w2 (w2.alloc (.cells #[.int .u64 0, .int .i64 0, .int .u64 0, .int .u64 0, .int .u64 0, .slice none 0 0, .slice none 0 0, .string { data := #[] }, .int .u64 0] 98)).drew := ((Below.refl w2.heap.size w2).alloc (Nat.le_refl _) (.cells #[.int .u64 0, .int .i64 0, .int .u64 0, .int .u64 0, .int .u64 0, .slice none 0 0, .slice none 0 0, .string { data := #[] }, .int .u64 0] 98)).drew
              have hS3 : RbAt j bk (jnCells p S z2 vc2 vl2) #[.int .u64 base, .int .u64 bterm, .slice ac conf.length cc, .slice al l.length cl] w2 (w2.alloc (.cells #[.int .u64 0, .int .i64 0, .int .u64 0, .int .u64 0, .int .u64 0, .slice none 0 0, .slice none 0 0, .string { data := #[] }, .int .u64 0] 98)).drew := ⟨blk_below HG1.out hba, blk_below HK2.out hba, hba⟩
              refine ⟨hS3, ?_⟩
              try simp only [Act.put, List.setIfInBounds_toArray, List.set_cons_zero, List.set_cons_succ]
              refine wpAnyH_one (i := 6) rfl rfl (by kernel_rfl) ?_
              go_simp
              refine Calls.mono (clone_any (W := (w2.alloc (.cells #[.int .u64 0, .int .i64 0, .int .u64 0, .int .u64 0, .int .u64 0, .slice none 0 0, .slice none 0 0, .string { data := #[] }, .int .u64 0] 98)).drew) base bterm (by exact HVC2.out.below hba) (by exact HVL2.out.below hba) (by omega) (by omega)) ?_
              rintro e w5 ⟨vc', vl', rfl, r1, r2, hb5⟩
              obtain ⟨ac', cc', rfl⟩ := own_form r1
              obtain ⟨al', cl', rfl⟩ := own_form r2
              have hS5 := hS3.below hb5
              have hx5 : w5.heap[w2.heap.size]? = some (.cells #[.int .u64 0, .int .i64 0, .int .u64 0, .int .u64 0, .int .u64 0, .slice none 0 0, .slice none 0 0, .string { data := #[] }, .int .u64 0] 98) := blk_below (W := (w2.alloc (.cells #[.int .u64 0, .int .i64 0, .int .u64 0, .int .u64 0, .int .u64 0, .slice none 0 0, .slice none 0 0, .string { data := #[] }, .int .u64 0] 98)).drew) (by exact heap_alloc_new w2 _) hb5
              refine ⟨hS5, ?_⟩
              try simp only [Act.put, List.setIfInBounds_toArray, List.set_cons_zero, List.set_cons_succ]
              refine wpAnyH_takeD (i := 8) (d := 40) (v := .agg #[.int .u64 S.hard.term, .int .i64 S.hard.vote, .int .u64 S.hard.life, .int .u64 base, .int .u64 bterm, .slice ac' conf.length cc', .slice al' l.length cl', .string (str image), .int .u64 0]) rfl rfl rfl (by kernel_rfl) (by kernel_rfl) (by kernel_rfl) (fun _ _ _ _ h => h) ?m8 hS5 ?_
              case m8 => intro w _; go_simp
              try simp only [Act.put, List.setIfInBounds_toArray, List.set_cons_zero, List.set_cons_succ]
              refine wpAnyH_one (i := 10) rfl rfl (by kernel_rfl) ?_
              refine wp_store_row 98 _ _ rfl w2.heap.size #[.int .u64 S.hard.term, .int .i64 S.hard.vote, .int .u64 S.hard.life, .int .u64 base, .int .u64 bterm, .slice ac' conf.length cc', .slice al' l.length cl', .string (str image), .int .u64 0] (by rfl) (by rfl) 98 _ hx5 sizeSt rfl (by simp [Value.oneCell']) ?_
              have hjl : j < w2.heap.size := (Array.getElem?_eq_some_iff.1 HG1.out).1
              have hsz3 : (w2.alloc (.cells #[.int .u64 0, .int .i64 0, .int .u64 0, .int .u64 0, .int .u64 0, .slice none 0 0, .slice none 0 0, .string { data := #[] }, .int .u64 0] 98)).drew.heap.size = w2.heap.size + 1 := World.size_alloc w2 _
              have hbr : Below w2.heap.size w2 (w5.setRow w2.heap.size #[.int .u64 S.hard.term, .int .i64 S.hard.vote, .int .u64 S.hard.life, .int .u64 base, .int .u64 bterm, .slice ac' conf.length cc', .slice al' l.length cl', .string (str image), .int .u64 0]) := below_row hS5.2.2 (Nat.le_refl _) _
              refine ⟨⟨(setRow_other _ _ _ _ (by omega)).trans hS5.1, (setRow_other _ _ _ _ (by have := HBK.out; omega)).trans hS5.2.1, hbr⟩, wpAnyH_done (by kernel_rfl) ?_ _⟩
              simp only [Act.put, List.getElem_toArray, List.getElem_cons_succ, List.getElem_cons_zero]
              go_wp2_with fail
              go_meet
              case rel =>
                have n1 : ∀ r, (Value.slice ac' conf.length cc').ownBlock = some r → r ≠ w2.heap.size := fun r hr => by have := (r1.lt r hr).1; omega
                have n2 : ∀ r, (Value.slice al' l.length cl').ownBlock = some r → r ≠ w2.heap.size := fun r hr => by have := (r2.lt r hr).1; omega
                exact ⟨w2.heap.size, _, _, rfl, setRow_heap _ _ _ _ _ (0, 0) hx5, Nat.le_refl _, ownsRow_mono (ownsRow_of_block r1 (fun r hr => setRow_other _ _ _ _ (n1 r hr))) (by omega), ownsRow_mono (ownsRow_of_block r2 (fun r hr => setRow_other _ _ _ _ (n2 r hr))) (by omega), hbr⟩
          case rest =>
            obtain ⟨x, vc', vl', rfl, hx, hxs, hr1, hr2, hb5⟩ := hcut
            obtain ⟨ac', cc', rfl⟩ := own_form hr1
            obtain ⟨al', cl', rfl⟩ := own_form hr2
            have hbw : Below W.heap.size W wc := by
              have h0 : Below W.heap.size W w2 := by rw [hbk]; exact HB2.out
              exact h0.trans (hb5.mono h0.size)
            have hx5 := (Array.getElem?_eq_some_iff.1 hx).1
            have H5 := H.out.below hbw
            obtain ⟨F5, g2, g9, g8, g7, gA⟩ := H5.opened
            obtain ⟨z5, vc5, vl5, g1, gr1, gr2⟩ := H5.cells
            have hxG : x ∉ G := fun hm => by have := HSZ.out x hm; have := HBK.out; omega
            have hxF : x ∉ F5 := fun hm => hxG (g9 x hm)
            have HBW := hid hbw
            have HD5 := hid g2
            have HJF5 := hid g8
            have HGA5 := hid gA
            have HR1 := hid hr1
            have HR2 := hid hr2
            have HXF := hid hxF
            have HXS := hid hxs
            have HSO : Hid (JsOk ⟨S.hard, ⟨base, bterm, conf, l⟩, image⟩) := ⟨HJO.out.1.1, HJO.out.1.2.1, HJO.out.1.2.2.1, by simp only; omega, hbt, HM.out, fun e he => ⟨(HE.out e he).1, HG.out e he⟩, by simp only; omega⟩
            have hE5 : RxAt j x (jnCells p S z5 vc5 vl5) (stCells ⟨S.hard, ⟨base, bterm, conf, l⟩, image⟩ 0 (.slice ac' conf.length cc') (.slice al' l.length cl')) wc.drew := ⟨g1, hx⟩
            have HCO : Hid (∀ W' : World, RxAt j x (jnCells p S z5 vc5 vl5) (stCells ⟨S.hard, ⟨base, bterm, conf, l⟩, image⟩ 0 (.slice ac' conf.length cc') (.slice al' l.length cl')) W' → W'.cell? ⟨j, 0, none⟩ = some (.pointer (some ⟨p, 0, none⟩)) ∧ W'.cell? ⟨x, 0, none⟩ = some (.int .u64 S.hard.term) ∧ W'.cell? ⟨x, 1, none⟩ = some (.int .i64 S.hard.vote) ∧ W'.cell? ⟨x, 2, none⟩ = some (.int .u64 S.hard.life) ∧ W'.cell? ⟨x, 3, none⟩ = some (.int .u64 base) ∧ W'.cell? ⟨x, 4, none⟩ = some (.int .u64 bterm) ∧ W'.cell? ⟨x, 5, none⟩ = some (.slice ac' conf.length cc') ∧ W'.cell? ⟨x, 6, none⟩ = some (.slice al' l.length cl') ∧ W'.cell? ⟨x, 7, none⟩ = some (.string (str image)) ∧ W'.cell? ⟨x, 8, none⟩ = some (.int .u64 0)) :=
              fun W' h => ⟨cell_in h.1 0 _ rfl, cell_in h.2 0 _ rfl, cell_in h.2 1 _ rfl, cell_in h.2 2 _ rfl, cell_in h.2 3 _ rfl, cell_in h.2 4 _ rfl, cell_in h.2 5 _ rfl, cell_in h.2 6 _ rfl, cell_in h.2 7 _ rfl, cell_in h.2 8 _ rfl⟩
            have HWH := hid (whole_js HSO.out (by simp only; omega) 0 _ _ wc.drew (by exact Cells.of_row (D := []) hr1 (by simp)) (by exact Cells.of_row (D := []) hr2 (by simp)))
            have HFL := hid (fileB_len HSO.out (by simp only; omega))
            have HP := hid (hok.puts (fileB ⟨S.hard, ⟨base, bterm, conf, l⟩, image⟩))
            clear hx hxs hr1 hr2 hb5 hbw H5 g1 g2 g7 g8 g9 gA gr1 gr2 hxF HD2 HFG HJF HGA HVC2 HVL2 HK2 HG1 HT2
            generalize hFB : fileB ⟨S.hard, ⟨base, bterm, conf, l⟩, image⟩ = FB at *
            go_upto_region 4 with fail
            go_region_held3 (fun W' => W'.cell? ⟨j, 0, none⟩ = some (.pointer (some ⟨p, 0, none⟩)) ∧ W'.cell? ⟨x, 0, none⟩ = some (.int .u64 S.hard.term) ∧ W'.cell? ⟨x, 1, none⟩ = some (.int .i64 S.hard.vote) ∧ W'.cell? ⟨x, 2, none⟩ = some (.int .u64 S.hard.life) ∧ W'.cell? ⟨x, 3, none⟩ = some (.int .u64 base) ∧ W'.cell? ⟨x, 4, none⟩ = some (.int .u64 bterm) ∧ W'.cell? ⟨x, 5, none⟩ = some (.slice ac' conf.length cc') ∧ W'.cell? ⟨x, 6, none⟩ = some (.slice al' l.length cl') ∧ W'.cell? ⟨x, 7, none⟩ = some (.string (str image)) ∧ W'.cell? ⟨x, 8, none⟩ = some (.int .u64 0)) (exact HCO.out _ (by assumption))
              (first
              | (go_at_call 43; refine Calls.mono HWH.out ?_; rintro e w6 ⟨rfl, hb6⟩; have hB6 : Below wc.heap.size wc w6 := ⟨hb6.os, hb6.tape, hb6.output, hb6.size, hb6.block⟩; have hE6 := hE5.turn (.below (F := []) hb6) (by simp) (by simp); have HB6 := hid hB6; have HD6 := hid (HD5.out.below hB6); clear hb6 hB6)
              | (go_at_call 8; refine Calls.mono (put_any HD6.out hok.1 (by have := hok.2; omega) _ HFL.out) ?_; rintro e w7 ⟨rfl, ha7⟩; obtain ⟨F7, hd7, hf7, ht7⟩ := ha7; have hE7 := hE6.turn ht7 HJF5.out HXF.out; have HD7 := hid hd7; have HF7 := hid hf7; have HT7 := hid ht7; clear hd7 hf7 ht7)
              | (go_at_call 44; refine Calls.mono (jsync_any HD7.out HP.out.1.1 HP.out.2) ?_; rintro e w8 ⟨rfl, ha8⟩; have HA8 := hid (After.trans HT7.out HF7.out ha8); have hE8 : RxAt j x (jnCells p S z5 vc5 vl5) (stCells ⟨S.hard, ⟨base, bterm, conf, l⟩, image⟩ 0 (.slice ac' conf.length cc') (.slice al' l.length cl')) w8 := (by obtain ⟨_, _, _, t⟩ := HA8.out; exact hE6.turn t HJF5.out HXF.out); clear ha8))
            have HA5 := hid (HGA5.out _ _ (After.trans (Turn.below HB6.out) (fun _ h => .inl h) HA8.out))
            have HX8 := hid hE8.2
            clear hE5 hE6 hE7 hE8 HD6 HD7 HF7 HT7 HA8 HGA5 HWH HD5
            generalize hqq : Ds.sync' (d.puts FB) = q3 at *
            obtain ⟨d3, e4⟩ := q3
            simp only at HA5 HJ1 ⊢
            by_cases he4 : e4 = 0
            · subst he4
              have HJ2 := hid (HJ1.out.trans (if_neg (by simp)))
              obtain ⟨G4, k1, k2, k3⟩ := HA5.out
              have HK1 := hid k1
              have HK2' := hid k2
              have HK3 := hid k3
              obtain ⟨z4, vc4, vl4, m1, _, _⟩ := k1.cells
              have HM1 := hid m1
              have n1 := cell_in m1 1 (.int .u64 S.hard.term) rfl
              have n2 := cell_in m1 2 (.int .i64 S.hard.vote) rfl
              have n3 := cell_in m1 3 (.int .u64 S.hard.life) rfl
              have n4 := cell_in m1 4 (.int .u64 S.log.base) rfl
              have n5 := cell_in m1 5 (.int .u64 S.log.bterm) rfl
              have n6 := cell_in m1 6 vc4 rfl
              have n7 := cell_in m1 7 vl4 rfl
              have n8 := cell_in m1 8 (.string (str S.image)) rfl
              have n9 := cell_in m1 9 (.int .u64 z4) rfl
              have u1 := free_in m1 1
              have u2 := free_in m1 2
              have u3 := free_in m1 3
              have u4 := free_in m1 4
              have u5 := free_in m1 5
              have u6 := free_in m1 6
              have u7 := free_in m1 7
              have u8 := free_in m1 8
              have u9 := free_in m1 9
              have q0 := cell_in HX8.out 0 (.int .u64 S.hard.term) rfl
              have q1 := cell_in HX8.out 1 (.int .i64 S.hard.vote) rfl
              have q2 := cell_in HX8.out 2 (.int .u64 S.hard.life) rfl
              have q3 := cell_in HX8.out 3 (.int .u64 base) rfl
              have q4 := cell_in HX8.out 4 (.int .u64 bterm) rfl
              have q5 := cell_in HX8.out 5 (.slice ac' conf.length cc') rfl
              have q6 := cell_in HX8.out 6 (.slice al' l.length cl') rfl
              have q7 := cell_in HX8.out 7 (.string (str image)) rfl
              have q8 := cell_in HX8.out 8 (.int .u64 0) rfl
              clear k1 k2 k3 m1 HJ1 hqq
              go_wp2_with fail
              go_ret
              rw [HJ2.out]
              obtain ⟨t, hj⟩ := set_state (S' := ⟨S.hard, ⟨base, bterm, conf, l⟩, image⟩) (z' := 0) (vc' := .slice ac' conf.length cc') (vl' := .slice al' l.length cl') HM1.out
              have hjm := HK1.out.mem
              have hrG : ∀ r, ((Value.slice ac' conf.length cc').ownBlock = some r ∨ (Value.slice al' l.length cl').ownBlock = some r) → r ∉ G ∧ r < wc.heap.size ∧ W.heap.size ≤ r := fun r hr => by
                have h0 := HBK.out
                rcases hr with hr | hr
                · have h1 := HR1.out.lt r hr
                  exact ⟨fun hm => by have := HSZ.out r hm; omega, h1.2, by omega⟩
                · have h1 := HR2.out.lt r hr
                  exact ⟨fun hm => by have := HSZ.out r hm; omega, h1.2, by omega⟩
              have hr4 : ∀ r, ((Value.slice ac' conf.length cc').ownBlock = some r ∨ (Value.slice al' l.length cl').ownBlock = some r) → r ∉ G4 := fun r hr hm => by
                have h1 := hrG r hr
                rcases HK2'.out r hm with h | h
                · exact h1.1 h
                · have := h1.2.1; omega
              have hmj : j ∈ G := H.out.mem
              have rw1 := ownsRow_of_block HR1.out fun r hr => (t.block (Nat.lt_of_lt_of_le (hrG r (.inl hr)).2.1 HK3.out.size) (by simp; rintro rfl; exact (hrG r (.inl hr)).1 hmj)).trans (HK3.out.block (hrG r (.inl hr)).2.1 (hrG r (.inl hr)).1)
              have rw2 := ownsRow_of_block HR2.out fun r hr => (t.block (Nat.lt_of_lt_of_le (hrG r (.inr hr)).2.1 HK3.out.size) (by simp; rintro rfl; exact (hrG r (.inr hr)).1 hmj)).trans (HK3.out.block (hrG r (.inr hr)).2.1 (hrG r (.inr hr)).1)
              refine ⟨rfl, _, HK1.out.restate t hj (fun r hr => hr4 r (.inl hr)) (fun r hr => hr4 r (.inr hr)) rw1 rw2 HSO.out (by omega) (by simp only; omega), ?_, ?_⟩
              · intro b hb
                rcases List.mem_append.1 hb with hb | hb
                · exact .inr (hrG b (.inl (mem_ownL.1 hb))).2.2
                · rcases List.mem_append.1 hb with hb | hb
                  · exact .inr (hrG b (.inr (mem_ownL.1 hb))).2.2
                  · rcases HK2'.out b hb with h | h
                    · exact .inl h
                    · have := HBW.out.size; exact .inr (by omega)
              · exact ((Turn.below HBW.out).trans HK3.out (fun b h => .inl h)).trans t (by simp; exact .inl hmj)
            · have HJ2 := hid (HJ1.out.trans (if_pos he4))
              have h1 : ((e4 : Int) != 0) = true := by simp only [bne_iff_ne, ne_eq]; omega
              have h2 : ¬ ((e4 : Int) = 0) := by omega
              clear he4 HJ1 hqq
              go_wp2_with fail
              go_ret
              rw [HJ2.out]
              exact ⟨rfl, JnAfter.trans (Turn.below HBW.out) (fun b h => .inl h) HA5.out⟩
        · as_aux_lemma =>
          have HJ1 := hid (HJB.out (.inr (.inr (.inr hbad))))
          have HB2 := hid (HB0.out.trans (hb2.mono HB0.out.size))
          clear HJG HJB hbad hb2
          go_wp2_with fail
          go_ret
          rw [HJ1.out]
          exact ⟨rfl, JnAfter.same H.out HB2.out⟩
end Go.Proofs.YtmehcogaopackaaGreat
