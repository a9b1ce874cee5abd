/-
  The walks of the reference's disk: Done, Count. (Several texts in one.)
-/
import Derived.Test.YtmehcogaopackaaGreatGH
import Derived.Test.YtmehcogaopackaaGreatJRead3
/- The reference's disk in memory, and the walks of its small functions. -/
namespace Go.Proofs.YtmehcogaopackaaGreat
open Go.RowKit
set_option linter.unusedVariables false
set_option linter.unusedSimpArgs false
/-- the reference's files, of which there is at most the one -/
def flVals : Option Bytes → List Value
  | none => []
  | some b => [.string { data := #[108, 111, 103] }, .string (str b)]
def flN : Option Bytes → Nat
  | none => 0
  | some _ => 1
/-- its pending calls -/
def pdKind (c : Pd) : Int := if c.put then 2 else 1
def clVals (cs : List Pd) : List Value := cs.flatMap fun c => [.int .i64 (pdKind c), .string { data := #[108, 111, 103] }, .string (str c.s)]
theorem clVals_len (cs : List Pd) : (clVals cs).length = 3 * cs.length := by
  induction cs with
  | nil => rfl
  | cons a l ih => simp only [clVals, List.flatMap_cons, List.length_append, List.length_cons, List.length_nil] at *; omega
theorem clVals_at : ∀ (l : List Pd) (k : Nat) (h : k < l.length), (clVals l)[k * 3]? = some (.int .i64 (pdKind l[k])) ∧ (clVals l)[k * 3 + 1]? = some (.string { data := #[108, 111, 103] }) ∧ (clVals l)[k * 3 + 2]? = some (.string (str l[k].s))
  | a :: l, 0, _ => ⟨rfl, rfl, rfl⟩
  | a :: l, k + 1, h => by
    have := clVals_at l k (by simpa using h)
    rw [show (k + 1) * 3 = k * 3 + 1 + 1 + 1 by omega]
    exact this
theorem clVals_snoc (cs : List Pd) (c : Pd) : clVals (cs ++ [c]) = clVals cs ++ [.int .i64 (pdKind c), .string { data := #[108, 111, 103] }, .string (str c.s)] := by simp [clVals]
def rdCells (d : Ds) (vs vl vp : Value) : Array Value := #[.int .i64 (d.cap : Nat), vs, vl, vp, .bool d.fused, .int .i64 d.left]
/-- the reference's disk d lies in block p; none of it lies in G -/
def RdAt (G : List Nat) (W : World) (p : Nat) (d : Ds) : Prop :=
  ∃ vs vl vp, W.heap[p]? = some (.cells (rdCells d vs vl vp) 80) ∧ Cells (p :: G) W vs (flN d.seen) (flVals d.seen) ∧ Cells (p :: G) W vl (flN d.lasts) (flVals d.lasts) ∧ Cells (p :: G) W vp d.pend.length (clVals d.pend) ∧ p ∉ G
theorem Cells.besides {G G' : List Nat} {W W' : World} {v : Value} {n : Nat} {xs : List Value} (h : Cells G W v n xs) (t : Turn G W W') (hG : ∀ b ∈ G', b ∈ G ∨ W.heap.size ≤ b) : Cells G' W' v n xs := by
  obtain ⟨a, cap, hv, hc, hx⟩ := h
  refine ⟨a, cap, hv, hc, fun hp => ?_⟩
  obtain ⟨b, off, ha, hb, hcell⟩ := hx hp
  have hlt : b < W.heap.size := World.block_lt_of_cell? _ _ (hcell 0 hp)
  refine ⟨b, off, ha, fun hm => ?_, fun j hj => ?_⟩
  · rcases hG b hm with h | h
    · exact hb h
    · omega
  · exact (World.cell?_of_block (t.block hlt hb)).trans (hcell j hj)
theorem RdAt.lt {G : List Nat} {W : World} {p : Nat} {d : Ds} (h : RdAt G W p d) : p < W.heap.size := by
  obtain ⟨vs, vl, vp, h1, _⟩ := h
  exact (Array.getElem?_eq_some_iff.1 h1).1
/-- what turns the blocks G leaves it as it is -/
theorem RdAt.besides {G G' : List Nat} {W W' : World} {p : Nat} {d : Ds} (h : RdAt G W p d) (t : Turn G W W') (hG : ∀ b ∈ G', b ∈ G ∨ W.heap.size ≤ b) : RdAt G' W' p d := by
  have hlt := h.lt
  obtain ⟨vs, vl, vp, h1, h2, h3, h4, h5⟩ := h
  have hp : ∀ b ∈ p :: G', b ∈ p :: G ∨ W.heap.size ≤ b := fun b hb => by
    rcases List.mem_cons.1 hb with rfl | hb
    · exact .inl (List.mem_cons_self ..)
    · rcases hG b hb with h | h
      · exact .inl (List.mem_cons_of_mem _ h)
      · exact .inr h
  have tp : Turn (p :: G) W W' := t.mono fun b hb => List.mem_cons_of_mem _ hb
  refine ⟨vs, vl, vp, (t.block hlt h5).trans h1, h2.besides tp hp, h3.besides tp hp, h4.besides tp hp, fun hm => ?_⟩
  rcases hG p hm with h | h
  · exact h5 h
  · omega
theorem RdAt.below {G : List Nat} {W W' : World} {p : Nat} {d : Ds} (h : RdAt G W p d) (hb : Below W.heap.size W W') : RdAt G W' p d := h.besides (.below hb) fun b hb => .inl hb
/-- the steps of a call, one of them less -/
theorem pdKind_put (c : Pd) : (pdKind c == 1) = !c.put := by
  unfold pdKind
  cases c.put <;> rfl
theorem rget_any {D : List Nat} {W : World} {v : Value} {o : Option Bytes} (h : Cells D W v (flN o) (flVals o)) :
    Calls Tryz.prog 36 #[v, .string { data := #[108, 111, 103] }] W fun e w' => e = .returned (.tuple #[.string (str (o.getD [])), .bool o.isSome]) ∧ W = w' := by
  obtain ⟨a, cap, rfl⟩ := h.form
  obtain ⟨_, hc, hx⟩ := h.at
  clear h
  cases o with
  | none =>
    go_enter Tryz.func36, Tryz.ntmps36
    simp only [flN]
    go_wp2_with fail
    go_rounds 1
    go_ret2
    exact ⟨rfl, rfl⟩
  | some b =>
    obtain ⟨g, off, rfl, hcell⟩ := hx (by simp [flVals])
    have c0 := hcell W (Below.refl _ _) 0 _ rfl
    rw [Nat.add_zero] at c0
    have c1 := hcell W (Below.refl _ _) 1 _ rfl
    clear hx hcell
    go_enter Tryz.func36, Tryz.ntmps36
    simp only [flN]
    go_wp2_with fail
    go_rounds 1
    go_ret2
    exact ⟨rfl, rfl⟩
theorem rwithout_any {D : List Nat} {W : World} {v : Value} {o : Option Bytes} (h : Cells D W v (flN o) (flVals o)) :
    Calls Tryz.prog 72 #[v, .string { data := #[108, 111, 103] }] W fun e w' => e = .returned (.slice none 0 0) ∧ W = w' := by
  obtain ⟨a, cap, rfl⟩ := h.form
  obtain ⟨_, hc, hx⟩ := h.at
  clear h
  cases o with
  | none =>
    go_enter Tryz.func72, Tryz.ntmps72
    simp only [flN]
    go_wp2_with fail
    go_rounds 1
    go_ret
    exact ⟨rfl, rfl⟩
  | some b =>
    obtain ⟨g, off, rfl, hcell⟩ := hx (by simp [flVals])
    have c0 := hcell W (Below.refl _ _) 0 _ rfl
    rw [Nat.add_zero] at c0
    have c1 := hcell W (Below.refl _ _) 1 _ rfl
    clear hx hcell
    go_enter Tryz.func72, Tryz.ntmps72
    simp only [flN]
    go_wp2_with fail
    go_rounds 2
    go_ret
    exact ⟨rfl, rfl⟩
theorem infoFile : (Tryz.prog.info? 92).map (fun i => (i.zero, i.size, i.bytes)) = some (some (.agg #[.string { data := #[] }, .string { data := #[] }]), 2, 32) := by kernel_rfl
set_option maxRecDepth 100000 in
set_option maxHeartbeats 2000000 in
theorem rwith_any {D : List Nat} {W : World} {v : Value} {o : Option Bytes} (h : Cells D W v (flN o) (flVals o)) (s : Bytes) :
    Calls Tryz.prog 39 #[v, .agg #[.string { data := #[108, 111, 103] }, .string (str s)]] W fun e w' => ∃ v', e = .returned v' ∧ w'.ownsRow W.heap.size 92 2 v' 1 (flVals (some s)) ∧ Below W.heap.size W w' := by
  have hb : Below W.heap.size W (W.alloc (.cells #[.string { data := #[108, 111, 103] }, .string (str s)] 92)) := (Below.refl _ _).alloc (Nat.le_refl _) _
  have hk := heap_alloc_new W (.cells #[.string { data := #[108, 111, 103] }, .string (str s)] 92)
  have HC := hid (rwithout_any (h.below hb))
  have HB := hid hb
  have HZ := hid (World.size_alloc W (.cells #[.string { data := #[108, 111, 103] }, .string (str s)] 92))
  obtain ⟨i0, hi, hz0, hz1, hz2⟩ := info_parts infoFile
  have c0 := cell_in hk 0 (.string { data := #[108, 111, 103] }) rfl
  have c1 := cell_in hk 1 (.string (str s)) rfl
  obtain ⟨a, cap, rfl⟩ := h.form
  clear h hb
  go_enter Tryz.func39, Tryz.ntmps39
  go_wp2_with fail
  generalize W.alloc (.cells #[.string { data := #[108, 111, 103] }, .string (str s)] 92) = W1 at *
  refine Calls.mono HC.out ?_
  rintro e w1 ⟨rfl, rfl⟩
  go_wp2_with fail
  refine wp_loop_rounds 1 ?_
  rw [rounds_succ]
  go_wp2_with (at_builtin; refine wpList_append_own _ rfl _ _ 77 rfl W.heap.size 92 i0 (.agg #[.string { data := #[] }, .string { data := #[] }]) 2 32 Tryz.underlying77 hi hz0 hz1 hz2 rfl (by decide) _ _ _ rfl (World.ownsRow_nil _ _ _ _) ⟨W1.heap.size, 0, none⟩ 1 1 (flVals (some s)) rfl rfl (cells_two _ _ _) (by simp [flVals, Value.oneCell']) (by unfold maxLen; omega) (by omega) (by rw [World.size_alloc, HZ.out]; omega) ?_; intro v' w2 hown' hgrow _)
  go_ret
  exact ⟨_, rfl, by simpa using hown', ((HB.out.alloc HB.out.size _).grown hgrow (by rw [World.size_alloc, HZ.out]; omega) (fun k hk => by first | cases hk | (simp [Value.ownBlock] at hk)))⟩
set_option maxHeartbeats 1000000 in
theorem rsteps_any (c : Pd) (W : World) :
    Calls Tryz.prog 38 #[.agg #[.int .i64 (pdKind c), .string { data := #[108, 111, 103] }, .string (str c.s)]] W fun e w' => e = .returned (.int .i64 (c.steps : Nat)) ∧ Below W.heap.size W w' := by
  have hb : Below W.heap.size W (W.alloc (.cells #[.int .i64 (pdKind c), .string { data := #[108, 111, 103] }, .string (str c.s)] 33)) := (Below.refl _ _).alloc (Nat.le_refl _) _
  have HB := hid hb
  have hz : (str c.s).size = c.s.length := str_size _
  obtain ⟨put, s⟩ := c
  simp only [pdKind] at *
  unfold Pd.steps
  cases put
  · go_enter Tryz.func38, Tryz.ntmps38
    go_wp2_with fail
    go_ret
    exact ⟨rfl, HB.out⟩
  · go_enter Tryz.func38, Tryz.ntmps38
    go_wp2_with fail
    go_ret
    exact ⟨rfl, HB.out⟩
theorem rused_any {D : List Nat} {W : World} {v : Value} {o : Option Bytes} (h : Cells D W v (flN o) (flVals o)) (hl : lenO o ≤ 1099511627776) :
    Calls Tryz.prog 40 #[v] W fun e w' => e = .returned (.int .i64 (lenO o : Nat)) ∧ W = w' := by
  obtain ⟨a, cap, rfl⟩ := h.form
  obtain ⟨_, hc, hx⟩ := h.at
  clear h
  cases o with
  | none =>
    go_enter Tryz.func40, Tryz.ntmps40
    simp only [flN]
    go_wp2_with fail
    go_rounds 1
    go_ret
    exact ⟨rfl, rfl⟩
  | some b =>
    have hl2 : b.length ≤ 1099511627776 := hl
    have hz : (str b).size = b.length := str_size _
    obtain ⟨g, off, rfl, hcell⟩ := hx (by simp [flVals])
    have c0 := hcell W (Below.refl _ _) 0 _ rfl
    rw [Nat.add_zero] at c0
    have c1 := hcell W (Below.refl _ _) 1 _ rfl
    clear hx hcell
    show Calls _ _ _ _ fun e w' => e = .returned (.int .i64 (b.length : Nat)) ∧ W = w'
    go_enter Tryz.func40, Tryz.ntmps40
    simp only [flN]
    go_wp2_with fail
    go_rounds 2
    go_ret
    exact ⟨by simp, rfl⟩
end Go.Proofs.YtmehcogaopackaaGreat
/- The walks of the reference's disk: Off, spend, Fuse, New, Read, Sync, Count, Done. -/
namespace Go.Proofs.YtmehcogaopackaaGreat
open Go.RowKit
set_option linter.unusedVariables false
set_option linter.unusedSimpArgs false
/-- a store into the disk's own cells -/
theorem RdAt.mk_set {G : List Nat} {W : World} {p : Nat} {d' : Ds} {o : Nat} {v : Value} {cs : Array Value} {vs vl vp : Value} (h1 : W.heap[p]? = some (.cells cs 80)) (hc : cs.setIfInBounds o v = rdCells d' vs vl vp)
    (h2 : Cells (p :: G) W vs (flN d'.seen) (flVals d'.seen)) (h3 : Cells (p :: G) W vl (flN d'.lasts) (flVals d'.lasts)) (h4 : Cells (p :: G) W vp d'.pend.length (clVals d'.pend)) (h5 : p ∉ G) : RdAt G (W.setCell ⟨p, o, none⟩ v) p d' := by
  have t : Turn (p :: G) W (W.setCell ⟨p, o, none⟩ v) := .set W p o v (by simp)
  exact ⟨vs, vl, vp, by rw [← hc]; exact heap_set h1 o v, h2.besides t (fun b hb => .inl hb), h3.besides t (fun b hb => .inl hb), h4.besides t (fun b hb => .inl hb), h5⟩
theorem roff_any {G : List Nat} {W : World} {p : Nat} {d : Ds} (h : RdAt G W p d) :
    Calls Tryz.prog 35 #[.pointer (some ⟨p, 0, none⟩)] W fun e w' => e = .returned (.bool d.off) ∧ W = w' := by
  obtain ⟨vs, vl, vp, h1, _⟩ := h
  obtain ⟨cap, seen, lasts, pend, fused, left⟩ := d
  have c4 : W.cell? ⟨p, 4, none⟩ = some (.bool fused) := cell_in h1 4 _ rfl
  have c5 : W.cell? ⟨p, 5, none⟩ = some (.int .i64 left) := cell_in h1 5 _ rfl
  clear h1
  unfold Ds.off
  cases fused
  · go_enter Tryz.func35, Tryz.ntmps35
    go_wp2_with fail
    go_ret
    exact ⟨rfl, rfl⟩
  · by_cases hl : left ≤ 0
    · have hl1 : left < 1 := by omega
      go_enter Tryz.func35, Tryz.ntmps35
      go_wp2_with fail
      go_ret
      exact ⟨by simp [hl], rfl⟩
    · have hl1 : ¬ (left < 1) := by omega
      go_enter Tryz.func35, Tryz.ntmps35
      go_wp2_with fail
      go_ret
      exact ⟨by simp [hl], rfl⟩
theorem rspend_any {G : List Nat} {W : World} {p : Nat} {d : Ds} (h : RdAt G W p d) (hl : d.fused = true → 1 ≤ d.left ∧ d.left ≤ 9223372036854775807) :
    Calls Tryz.prog 41 #[.pointer (some ⟨p, 0, none⟩)] W fun e w' => e = .returned (.tuple #[]) ∧ RdAt G w' p d.spend ∧ Turn [p] W w' := by
  obtain ⟨cap, seen, lasts, pend, fused, left⟩ := d
  have H := hid h
  obtain ⟨vs, vl, vp, h1, h2, h3, h4, h5⟩ := h
  have c4 : W.cell? ⟨p, 4, none⟩ = some (.bool fused) := cell_in h1 4 _ rfl
  have c5 : W.cell? ⟨p, 5, none⟩ = some (.int .i64 left) := cell_in h1 5 _ rfl
  have f5 := free_in h1 5
  have HS : Hid (fused = true → RdAt G (W.setCell ⟨p, 5, none⟩ (.int .i64 (left - 1))) p ⟨cap, seen, lasts, pend, fused, left - 1⟩) := fun _ => RdAt.mk_set h1 rfl h2 h3 h4 h5
  clear h1 h2 h3 h4 h5
  unfold Ds.spend
  cases fused
  · clear hl
    go_enter Tryz.func41, Tryz.ntmps41
    go_wp2_with fail
    go_end0
    exact ⟨rfl, H.out, .refl _ _⟩
  · obtain ⟨hl1, hl2⟩ := hl rfl
    simp only at hl1 hl2
    clear hl
    go_enter Tryz.func41, Tryz.ntmps41
    go_wp2_with fail
    go_end0
    exact ⟨rfl, HS.out (by simp), .set _ _ _ _ (by simp)⟩
theorem rfuse_any {G : List Nat} {W : World} {p : Nat} {d : Ds} (h : RdAt G W p d) (n : Int) :
    Calls Tryz.prog 20 #[.pointer (some ⟨p, 0, none⟩), .int .i64 n] W fun e w' => e = .returned (.tuple #[]) ∧ RdAt G w' p (d.fuse n) ∧ Turn [p] W w' := by
  obtain ⟨cap, seen, lasts, pend, fused, left⟩ := d
  obtain ⟨vs, vl, vp, h1, h2, h3, h4, h5⟩ := h
  have c4 : W.cell? ⟨p, 4, none⟩ = some (.bool fused) := cell_in h1 4 _ rfl
  have c5 : W.cell? ⟨p, 5, none⟩ = some (.int .i64 left) := cell_in h1 5 _ rfl
  have f4 := free_in h1 4
  have f5 := free_in h1 5
  have HS := hid (RdAt.mk_set (d' := ⟨cap, seen, lasts, pend, decide (0 ≤ n), left⟩) h1 (o := 4) (v := .bool (decide (0 ≤ n))) rfl h2 h3 h4 h5)
  clear h1 h2 h3 h4 h5
  unfold Ds.fuse
  go_enter Tryz.func20, Tryz.ntmps20
  go_wp2_with fail
  go_end0
  have h := HS.out
  obtain ⟨vs, vl, vp, h1, h2, h3, h4, h5⟩ := h
  exact ⟨rfl, RdAt.mk_set h1 rfl h2 h3 h4 h5, (Turn.set W p 4 _ (by simp)).trans (Turn.set _ p 5 _ (by simp)) (fun b h => .inl h)⟩
theorem rnew_any (cap : Nat) (hc : cap ≤ 1048576) (W : World) (G : List Nat) (hG : ∀ b ∈ G, b < W.heap.size) :
    Calls Tryz.prog 7 #[.int .i64 (cap : Nat)] W fun e W' => e = .returned (.pointer (some ⟨W.heap.size, 0, none⟩)) ∧ RdAt G W' W.heap.size (Ds.new cap) ∧ Below W.heap.size W W' := by
  have h1 : ¬ ((cap : Int) < 0) := by omega
  have h2 : ¬ ((1048576 : Int) < (cap : Int)) := by omega
  have hb : Below W.heap.size W (W.alloc (.cells (rdCells (Ds.new cap) (.slice none 0 0) (.slice none 0 0) (.slice none 0 0)) 80)) := (Below.refl _ _).alloc (Nat.le_refl _) _
  have hd : RdAt G (W.alloc (.cells (rdCells (Ds.new cap) (.slice none 0 0) (.slice none 0 0) (.slice none 0 0)) 80)) W.heap.size (Ds.new cap) :=
    ⟨.slice none 0 0, .slice none 0 0, .slice none 0 0, heap_alloc_new W _, Cells.nil _ _, Cells.nil _ _, Cells.nil _ _, fun hm => by have := hG _ hm; omega⟩
  have HB := hid hb
  have HD := hid hd
  clear hb hd
  go_enter Tryz.func7, Tryz.ntmps7
  go_wp2_with fail
  go_ret
  exact ⟨rfl, HD.out, HB.out⟩
theorem rnew_no (cap : Int) (hc : cap < 0 ∨ 1048576 < cap) (W : World) :
    Calls Tryz.prog 7 #[.int .i64 cap] W fun e W' => e = .returned (.pointer none) ∧ Below W.heap.size W W' := by
  by_cases h : cap < 0
  · go_enter Tryz.func7, Tryz.ntmps7
    go_wp2_with fail
    go_ret
    exact ⟨rfl, Below.refl _ _⟩
  · have h2 : 1048576 < cap := by omega
    clear hc
    go_enter Tryz.func7, Tryz.ntmps7
    go_wp2_with fail
    go_ret
    exact ⟨rfl, Below.refl _ _⟩
theorem rread_any {G : List Nat} {W : World} {p : Nat} {d : Ds} (h : RdAt G W p d) :
    Calls Tryz.prog 49 #[.pointer (some ⟨p, 0, none⟩), .string { data := #[108, 111, 103] }] W fun e w' => e = .returned (.tuple #[.string (str d.read.1), .int .i64 (d.read.2 : Nat)]) ∧ W = w' := by
  have HO := hid (roff_any h)
  obtain ⟨cap, seen, lasts, pend, fused, left⟩ := d
  obtain ⟨vs, vl, vp, h1, h2, _⟩ := h
  have c1 : W.cell? ⟨p, 1, none⟩ = some vs := cell_in h1 1 _ rfl
  have HG := hid (rget_any h2)
  obtain ⟨a, cp, rfl⟩ := h2.form
  clear h1 h2
  have HD : Hid (Ds.read ⟨cap, seen, lasts, pend, fused, left⟩ = if Ds.off ⟨cap, seen, lasts, pend, fused, left⟩ then ([], 8) else match seen with | none => ([], 6) | some b => (b, 0)) := by show _ = _; rfl
  generalize Ds.off ⟨cap, seen, lasts, pend, fused, left⟩ = o at HO HD
  generalize Ds.read ⟨cap, seen, lasts, pend, fused, left⟩ = r at HD ⊢
  cases o
  · cases seen with
    | none =>
      go_enter Tryz.func49, Tryz.ntmps49
      go_wp2_with fail
      refine Calls.mono HO.out ?_
      rintro e w1 ⟨rfl, rfl⟩
      go_wp2_with fail
      refine Calls.mono HG.out ?_
      rintro e w1 ⟨rfl, rfl⟩
      simp only [Option.getD_none, Option.isSome_none]
      go_wp2_with fail
      go_ret2
      rw [HD.out]
      exact ⟨rfl, rfl⟩
    | some b =>
      go_enter Tryz.func49, Tryz.ntmps49
      go_wp2_with fail
      refine Calls.mono HO.out ?_
      rintro e w1 ⟨rfl, rfl⟩
      go_wp2_with fail
      refine Calls.mono HG.out ?_
      rintro e w1 ⟨rfl, rfl⟩
      simp only [Option.getD_some, Option.isSome_some]
      go_wp2_with fail
      go_ret2
      rw [HD.out]
      exact ⟨rfl, rfl⟩
  · clear HG
    go_enter Tryz.func49, Tryz.ntmps49
    go_wp2_with fail
    refine Calls.mono HO.out ?_
    rintro e w1 ⟨rfl, rfl⟩
    go_wp2_with fail
    go_ret2
    rw [HD.out]
    exact ⟨rfl, rfl⟩
theorem may_zero_sync {d : Ds} (hok : d.ok) : d.may 0 = if d.off then 8 else 0 := by
  have h2 := hok.2.1
  unfold Ds.may
  split
  · rfl
  · rw [if_neg (by omega)]
set_option maxHeartbeats 1000000 in
theorem rsync_any {G : List Nat} {W : World} {p : Nat} {d : Ds} (h : RdAt G W p d) (hok : d.ok) :
    Calls Tryz.prog 11 #[.pointer (some ⟨p, 0, none⟩)] W fun e w' => e = .returned (.int .i64 ((d.sync).2 : Nat)) ∧ RdAt G w' p d.sync.1 ∧ Turn [p] W w' := by
  have HO := hid (roff_any h)
  have HM := may_zero_sync hok
  have hfl := fun h0 => may_left (d := d) (n := 0) h0 hok
  have HS : d.sync = if d.may 0 ≠ 0 then (d, d.may 0) else (Ds.spend { d with lasts := d.seen, pend := [] }, 0) := rfl
  rw [HM] at HS hfl
  have H := hid h
  cases hoff : d.off
  · rw [hoff] at HS hfl HO
    rw [if_neg (by simp)] at HS
    have hfl2 := hfl (by simp)
    obtain ⟨vs, vl, vp, h1, h2, h3, h4, h5⟩ := h
    have c1 : W.cell? ⟨p, 1, none⟩ = some vs := cell_in h1 1 _ rfl
    have c2 : W.cell? ⟨p, 2, none⟩ = some vl := cell_in h1 2 _ rfl
    have c3 : W.cell? ⟨p, 3, none⟩ = some vp := cell_in h1 3 _ rfl
    have f2 := free_in h1 2
    have f3 := free_in h1 3
    have hA : RdAt G (W.setCell ⟨p, 2, none⟩ vs) p { d with lasts := d.seen } := RdAt.mk_set h1 rfl h2 h2 h4 h5
    have hB : RdAt G ((W.setCell ⟨p, 2, none⟩ vs).setCell ⟨p, 3, none⟩ (.slice none 0 0)) p { d with lasts := d.seen, pend := [] } := by
      obtain ⟨vs', vl', vp', k1, k2, k3, k4, k5⟩ := hA
      exact RdAt.mk_set k1 rfl k2 k3 (Cells.nil _ _) k5
    have HSP := hid (rspend_any hB hfl2)
    have HT : Hid (Turn [p] W ((W.setCell ⟨p, 2, none⟩ vs).setCell ⟨p, 3, none⟩ (.slice none 0 0))) := (Turn.set W p 2 _ (by simp)).trans (Turn.set _ p 3 _ (by simp)) (fun b h => .inl h)
    have HSS := hid HS
    obtain ⟨a, cp, rfl⟩ := h2.form
    obtain ⟨a2, cp2, rfl⟩ := h3.form
    obtain ⟨a3, cp3, rfl⟩ := h4.form
    clear h1 h2 h3 h4 h5 hA hB hfl hfl2 HM hoff HS
    go_enter Tryz.func11, Tryz.ntmps11
    go_wp2_with fail
    refine Calls.mono HO.out ?_
    rintro e w1 ⟨rfl, rfl⟩
    go_wp2_with fail
    refine Calls.mono HSP.out ?_
    rintro e w1 ⟨rfl, hd1, ht1⟩
    have HD1 := hid hd1
    have HT1 := hid (HT.out.trans ht1 (fun b h => .inl h))
    clear hd1 ht1
    go_wp2_with fail
    go_ret
    rw [HSS.out]
    exact ⟨rfl, HD1.out, HT1.out⟩
  · rw [hoff] at HS HO
    rw [if_pos (by simp), if_pos rfl] at HS
    have HSS := hid HS
    clear hfl HM hoff HS
    go_enter Tryz.func11, Tryz.ntmps11
    go_wp2_with fail
    refine Calls.mono HO.out ?_
    rintro e w1 ⟨rfl, rfl⟩
    go_wp2_with fail
    go_ret
    rw [HSS.out]
    exact ⟨rfl, H.out, .refl _ _⟩
end Go.Proofs.YtmehcogaopackaaGreat
/- The walks of the reference's disk: Done, Count. -/
namespace Go.Proofs.YtmehcogaopackaaGreat
open Go.RowKit
set_option linter.unusedVariables false
set_option linter.unusedSimpArgs false
/-- a file behind the first n steps of a call -/
def doneO (o : Option Bytes) (c : Pd) (n : Nat) : Option Bytes := if n < 1 then o else if c.put then some c.s else some (o.getD [] ++ c.s.take n)
theorem take_str (l : Bytes) (n : Nat) : (str l).extract 0 n = str (l.take n) := by rw [extract_str]; simp [str]
set_option maxHeartbeats 4000000 in
theorem rdone_any {D : List Nat} {W : World} {v : Value} {o : Option Bytes} (h : Cells D W v (flN o) (flVals o)) (hD : ∀ b ∈ D, b < W.heap.size) (c : Pd) (n : Nat) (hn : n ≤ c.steps) (hs : lenO o ≤ 1099511627776) (hcs : c.s.length ≤ 1099511627776) :
    Calls Tryz.prog 37 #[v, .agg #[.int .i64 (pdKind c), .string { data := #[108, 111, 103] }, .string (str c.s)], .int .i64 (n : Nat)] W fun e w' => ∃ v', e = .returned v' ∧ Cells D w' v' (flN (doneO o c n)) (flVals (doneO o c n)) ∧ Below W.heap.size W w' := by
  have hb : Below W.heap.size W (W.alloc (.cells #[.int .i64 (pdKind c), .string { data := #[108, 111, 103] }, .string (str c.s)] 33)) := (Below.refl _ _).alloc (Nat.le_refl _) _
  have hk := heap_alloc_new W (.cells #[.int .i64 (pdKind c), .string { data := #[108, 111, 103] }, .string (str c.s)] 33)
  have HB := hid hb
  have HC := hid (h.below hb)
  have HD := hid hD
  have hz : (str c.s).size = c.s.length := str_size _
  have hzo : (str (o.getD [])).size = lenO o := str_size _
  obtain ⟨a, cap, rfl⟩ := h.form
  clear h hb
  by_cases h0 : n < 1
  · have h01 : (n : Int) < 1 := by omega
    have HO := hid (show doneO o c n = o from if_pos h0)
    go_enter Tryz.func37, Tryz.ntmps37
    go_wp2_with fail
    go_ret
    rw [HO.out]
    exact ⟨_, rfl, HC.out, HB.out⟩
  · have h01 : ¬ ((n : Int) < 1) := by omega
    obtain ⟨put, s⟩ := c
    simp only [pdKind] at *
    have c0 := cell_in hk 0 (.int .i64 (if put then 2 else 1)) rfl
    have c1 := cell_in hk 1 (.string { data := #[108, 111, 103] }) rfl
    have c2 := cell_in hk 2 (.string (str s)) rfl
    cases put
    · have hnl : n ≤ s.length := hn
      have HO := hid (show doneO o ⟨false, s⟩ n = some (o.getD [] ++ s.take n) by unfold doneO; rw [if_neg h0]; rfl)
      simp only [Bool.false_eq_true, if_false] at *
      have HG := hid (rget_any HC.out)
      have HZ1 := hid (World.size_alloc W (.cells #[.int .i64 1, .string { data := #[108, 111, 103] }, .string (str s)] 33))
      go_enter Tryz.func37, Tryz.ntmps37
      go_wp2_with fail
      generalize W.alloc (.cells #[.int .i64 1, .string { data := #[108, 111, 103] }, .string (str s)] 33) = W1 at *
      refine Calls.mono HG.out ?_
      rintro e w1 ⟨rfl, rfl⟩
      have htk : (str s).extract 0 n = str (s.take n) := take_str s n
      have hzt : (str (s.take n)).size = n := by rw [str_size, List.length_take, Nat.min_eq_left hnl]
      have hap : str (o.getD []) ++ str (s.take n) = str (o.getD [] ++ s.take n) := str_append _ _
      have hnot : ¬ (9223372036854775807 < lenO o + n) := by omega
      have d1 : W1.drew.cell? ⟨W.heap.size, 1, none⟩ = some (.string { data := #[108, 111, 103] }) := c1
      have d2 : W1.drew.cell? ⟨W.heap.size, 2, none⟩ = some (.string (str s)) := c2
      have HK := hid hk
      have HW1 : Hid (W1.heap.size = W.heap.size + 1) := HZ1.out
      have HBK : Hid (∀ w' : World, Below W1.drew.heap.size W1.drew w' → w'.cell? ⟨W.heap.size, 1, none⟩ = some (.string { data := #[108, 111, 103] }) ∧ w'.cell? ⟨W.heap.size, 2, none⟩ = some (.string (str s))) := fun w' hb' => ⟨cell_in (blk_below HK.out ⟨hb'.os, hb'.tape, hb'.output, hb'.size, hb'.block⟩) 1 _ rfl, cell_in (blk_below HK.out ⟨hb'.os, hb'.tape, hb'.output, hb'.size, hb'.block⟩) 2 _ rfl⟩
      have HWI := hid (fun W2 (hb2 : Below W1.heap.size W1 W2) => rwith_any (HC.out.below hb2) (o.getD [] ++ s.take n))
      go_wp2_with fail
      go_region_held3 (fun W' => W'.cell? ⟨W.heap.size, 1, none⟩ = some (.string { data := #[108, 111, 103] }) ∧ W'.cell? ⟨W.heap.size, 2, none⟩ = some (.string (str s))) (first | exact ⟨d1, d2⟩ | exact HBK.out _ (by assumption))
        ((go_at_call 39; refine Calls.mono (HWI.out _ (by exact (Below.refl _ _).drew)) ?_; rintro e w2 ⟨v', rfl, hr, hb2⟩; have hb3 : Below W1.drew.heap.size W1.drew w2 := hb2))
      have HR := hid hr
      have HB2 := hid (HB.out.trans ((show Below W1.heap.size W1 w2 from ⟨hb3.os, hb3.tape, hb3.output, hb3.size, hb3.block⟩).mono HB.out.size))
      obtain ⟨a2, cap2, rfl⟩ := own_form hr
      clear hr hb2 hb3
      go_wp2_with fail
      go_ret
      rw [HO.out]
      exact ⟨_, rfl, Cells.of_row HR.out D (fun j hj => by have h1 := HD.out j hj; have h2 := HW1.out; show j < W1.heap.size; omega), HB2.out⟩
    · have HO := hid (show doneO o ⟨true, s⟩ n = some s by unfold doneO; rw [if_neg h0]; rfl)
      simp only [if_true] at *
      have HW := hid (rwith_any HC.out s)
      have HZ := hid (World.size_alloc W (.cells #[.int .i64 2, .string { data := #[108, 111, 103] }, .string (str s)] 33))
      go_enter Tryz.func37, Tryz.ntmps37
      go_wp2_with fail
      generalize W.alloc (.cells #[.int .i64 2, .string { data := #[108, 111, 103] }, .string (str s)] 33) = W1 at *
      refine Calls.mono HW.out ?_
      rintro e w2 ⟨v', rfl, hr, hb2⟩
      obtain ⟨a2, cap2, rfl⟩ := own_form hr
      have HR := hid hr
      have HB2 := hid (HB.out.trans (hb2.mono HB.out.size))
      clear hr hb2
      go_wp2_with fail
      go_ret
      rw [HO.out]
      exact ⟨_, rfl, Cells.of_row HR.out D (fun j hj => by have := HD.out j hj; have := HZ.out; omega), HB2.out⟩
end Go.Proofs.YtmehcogaopackaaGreat
