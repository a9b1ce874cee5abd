/-
  The walk of the law PackWrites.
-/
import Derived.Test.YtkbnjckdkcfndaaPackAlive
namespace Go.Proofs.Ytkbnjckdkcfndaa
open Go.RowKit

/-- the slice value v holds the numbers zs -/
def HoldsInts (k : IntKind) (w : World) (v : Value) (zs : List Int) : Prop :=
  ∃ (a : Option Addr) (cap : Nat), v = .slice a zs.length cap ∧ (zs.length ≤ maxLen ∧ (a = none → cap = 0)) ∧ (0 < zs.length → ∃ b off, a = some ⟨b, off, none⟩ ∧ ∀ j (h : j < zs.length), w.cell? ⟨b, off + j, none⟩ = some (.int k zs[j]))
abbrev nats (zs : List Int) : List Nat := zs.map Int.toNat
theorem wf_u64 {z : Int} (h : (Lit.int .u64 z).wf = true) : 0 ≤ z ∧ z < 18446744073709551616 := by
  have : 0 ≤ z ∧ z ≤ 18446744073709551615 := by simpa [Lit.wf, IntKind.min, IntKind.max, IntKind.signed, IntKind.bits] using h
  omega
theorem holdsInts_nums {w : World} {v : Value} {zs : List Int} (h : HoldsInts .u64 w v zs) (hr : zs.length * 8 ≤ 140737488355328) (hm : ∀ n ∈ zs, (Lit.int .u64 n).wf = true) : HoldsNums w v (nats zs) := by
  obtain ⟨a, cap, rfl, _, hc⟩ := h
  have hl : (nats zs).length = zs.length := List.length_map _
  refine ⟨a, cap, by rw [hl], by rw [hl]; exact hr, fun n hn => ?_, fun hp => ?_⟩
  · obtain ⟨z, hz, rfl⟩ := List.mem_map.1 hn
    have := wf_u64 (hm z hz)
    unfold top64
    omega
  · obtain ⟨b, off, ha, hcell⟩ := hc (by rw [hl] at hp; exact hp)
    refine ⟨b, off, ha, fun j hj => ?_⟩
    rw [hl] at hj
    rw [hcell j hj, List.getElem_map, Int.toNat_of_nonneg (wf_u64 (hm _ (List.getElem_mem hj))).1]
theorem holdsInts_below {k : IntKind} {w w' : World} {v : Value} {zs : List Int} (h : HoldsInts k w v zs) (hb : Below w.heap.size w w') : HoldsInts k w' v zs := by
  obtain ⟨a, cap, hv, hm, hc⟩ := h
  refine ⟨a, cap, hv, hm, fun hp => ?_⟩
  obtain ⟨b, off, ha, hcell⟩ := hc hp
  exact ⟨b, off, ha, fun j hj => (hb.cell (p := ⟨b, off + j, none⟩) (World.block_lt_of_cell? _ _ (hcell j hj))).trans (hcell j hj)⟩
abbrev numVals (ns : List Nat) : List Value := ns.map fun (n : Nat) => Value.int .u64 (n : Int)
theorem holdsNums_own {w : World} {b : Nat} {v : Value} {n : Nat} {e : TypeId} (ns : List Nat) (hn : n = ns.length) (hr : ns.length * 8 ≤ 140737488355328) (hm : ∀ n ∈ ns, n < top64) (h : w.ownsRow b e 1 v n (numVals ns)) : HoldsNums w v ns := by
  subst hn
  rcases h.2 with ⟨rfl, h0⟩ | ⟨g, cap, cur, rfl, _, _, _⟩
  · exact ⟨none, 0, by rw [h0], hr, hm, fun hp => by omega⟩
  · refine ⟨some ⟨g, 0, none⟩, cap, rfl, hr, hm, fun _ => ⟨g, 0, rfl, fun j hj => ?_⟩⟩
    rw [Nat.zero_add, h.cellAt j (by omega)]
    simp [numVals, hj]
theorem infoU64 : (Try.prog.info? 22).map (fun i => (i.zero, i.size, i.bytes)) = some (some (.int .u64 0), 1, 8) := by kernel_rfl

/-- The append of a copy, behind a guard that holds: whatever the numbers (none, or an empty piece, too). -/
theorem append_nums {ops : Array Oper} {rest : List Oper} {o : Oper} {a : Act} {w : World} {Q : Exit → Act → World → Prop} (hw : Region.wanted o (yielded ops a.tmps) = true) (s x : Operand)
    (ho : o.op = .call { callee := .builtin .append, args := #[s, x], argTypes := #[23, 23] })
    (base : Nat) (v : Value) (hs : a.eval s = v) (hown : w.ownsRow base 22 1 v 0 []) (zs : List Int) (vx : Value) (hx : a.eval x = vx) (hv : HoldsInts .u64 w vx zs) (hr : zs.length * 8 ≤ 140737488355328) (hm : ∀ n ∈ zs, (Lit.int .u64 n).wf = true) (hbase : base ≤ w.heap.size)
    (h : ∀ v' w', HoldsNums w' v' (nats zs) → Below base w w' → wpList Try.prog ops Q rest (a.put o.dst v') w') :
    wpList Try.prog ops Q (o :: rest) a w := by
  obtain ⟨i0, hi, hz0, hz1, hz2⟩ := info_parts infoU64
  have hn := holdsInts_nums hv hr hm
  have hl : (nats zs).length = zs.length := List.length_map _
  obtain ⟨_, _, _, _, hm64, _⟩ := hn
  obtain ⟨ax, cap, rfl, ⟨hlm, hc0⟩, hc⟩ := hv
  refine wpList_step fun K hK => ?_
  rw [if_pos hw]
  have hv0 : numVals (nats zs) = zs.map fun z => Value.int .u64 z := by
    simp only [numVals, nats, List.map_map]
    refine List.map_congr_left fun z hz => ?_
    simp [Function.comp, Int.toNat_of_nonneg (wf_u64 (hm z hz)).1]
  cases ax with
  | none =>
    obtain rfl := hc0 rfl
    have hz : zs = [] := by
      cases zs with
      | nil => rfl
      | cons z r => obtain ⟨b, off, hb, _⟩ := hc (by simp); cases hb
    subst hz
    have hrun := run_append_owned_none (P := Try.prog) (w := w) base 23 o.type 22 i0 1 Try.underlying23 hi v 0 [] hown
    have hx' : a.eval x = .slice none 0 0 := hx
    unfold Oper.wp
    simp [execOp, ho, resolve, invoke, builtin, hs, hx', hrun, Result.andThen]
    exact hK _ _ (h v w (holdsNums_own [] rfl (by simp) (fun n hn => by simp at hn) hown) (Below.refl _ _))
  | some ad =>
    refine wp_append_own w s x 23 ho base 22 i0 (.int .u64 0) 1 8 Try.underlying23 hi hz0 hz1 hz2 rfl (by decide) v 0 [] hs hown ad zs.length cap (zs.map fun z => Value.int .u64 z) hx (by simp) ?_ (by simp [Value.oneCell']) (by omega) (by omega) hbase ?_
    · intro j u hu
      have hj : j < zs.length := by
        rcases Nat.lt_or_ge j zs.length with h | h
        · exact h
        · rw [List.getElem?_eq_none (by simpa using h)] at hu; cases hu
      obtain ⟨b, off, hb, hcell⟩ := hc (by omega)
      cases hb
      rw [show (Addr.mk b off none).add j = ⟨b, off + j, none⟩ from by simp [Addr.add], hcell j hj]
      simpa [hj] using hu
    · intro v' w' ho' hg _
      refine hK _ _ (h v' w' (holdsNums_own (n := 0 + zs.length) (nats zs) (by rw [hl, Nat.zero_add]) (by rw [hl]; exact hr) hm64 (by rw [hv0]; simpa using ho')) ((Below.refl _ _).grown hg hbase (fun j ej => (hown.lt j ej).1)))

set_option maxHeartbeats 1000000 in
theorem packWrites_walk (n : Int) (wn : (Lit.int .u64 n).wf = true) (s : ByteArray) (_hs : s.size ≤ maxLen) (hl0 : s.size ≤ 140737488351232) (zs : List Int) (v : Value) (w : World) (hv : HoldsInts .u64 w v zs) (hr : zs.length * 8 ≤ 140737488355328) (hm : ∀ n ∈ zs, (Lit.int .u64 n).wf = true) :
    Calls Try.prog 3 #[.int .u64 n, .string s, v] w fun e W' => e = .returned (.bool true) ∧ Below w.heap.size w W' := by
  obtain ⟨hn0, hn1⟩ := wf_u64 wn
  obtain ⟨n, rfl⟩ := Int.eq_ofNat_of_zero_le hn0
  have hn : n < top64 := by unfold top64; omega
  obtain ⟨l, rfl⟩ : ∃ l, s = str l := ⟨s.data.toList, (str_of s).symm⟩
  have hl : l.length ≤ 1152921504606846976 := by rw [str_size] at hl0; omega
  clear wn hn0 hn1 hl0 _hs
  go_enter Try.func3, Try.ntmps3
  go_wp2_with fail
  refine (packAlive_any _).mono ?_
  rintro e w1 ⟨rfl, hb1⟩
  go_wp2_with fail
  refine (num_any n hn _).mono ?_
  rintro e w2 ⟨rfl, hb2⟩
  have hB2 := hb1.trans (hb2.mono hb1.size)
  go_wp2_with fail
  refine (refNum_any n hn _).mono ?_
  rintro e w3 ⟨rfl, hb3⟩
  have hB3 := hB2.trans (hb3.mono hB2.size)
  clear hb1 hb2 hb3 hB2
  go_wp2_with fail
  refine (text_any l hl _).mono ?_
  rintro e w4 ⟨rfl, hb4⟩
  have hB4 := hB3.trans (hb4.mono hB3.size)
  go_wp2_with fail
  refine (refText_any l hl _).mono ?_
  rintro e w5 ⟨rfl, hb5⟩
  have hB5 := hB4.trans (hb5.mono hB4.size)
  have hB6 := hB5.alloc hB5.size (.cells #[] 22)
  have hv6 := holdsInts_below hv hB6
  have hown := World.ownsRow_lit (base := w5.heap.size) (e := 22) (size := 1) w5 #[] 0 (Nat.le_refl _) (by decide) rfl
  have hnums := holdsInts_nums hv hr hm
  clear hb4 hb5 hB3 hB4 hv
  go_wp2_with (at_builtin; refine append_nums rfl _ _ rfl w5.heap.size _ rfl hown zs v rfl hv6 hr hm (by simp) ?_; intro v' w7 hv7 hb7; have hB7 := hB6.trans (hb7.mono hB5.size); have hnums7 := holdsNums_below hnums hB7; clear hv6 hown)
  refine (nums_any _ _ _ hv7).mono ?_
  rintro e w8 ⟨rfl, hb8⟩
  have hB8 := hB7.trans (hb8.mono hB7.size)
  have hnums8 := holdsNums_below hnums7 hb8
  clear hnums hnums7 hb8 hv7
  go_wp2_with fail
  refine (refNums_any _ _ _ hnums8).mono ?_
  rintro e w9 ⟨rfl, hb9⟩
  have hB9 := hB8.trans (hb9.mono hB8.size)
  go_wp2_with fail
  go_ret
  exact ⟨rfl, hB9⟩
end Go.Proofs.Ytkbnjckdkcfndaa
