/-
  seal.All: the bodies of all frames, where they end, what is wrong with what is left ('allOf').
-/
import Derived.Test.YtmehcogaopackaaEach
import Derived.RegionIn
namespace Go.Proofs.Ytmehcogaopackaa
open Go.RowKit Go.Shelf

attribute [local go_sem] Oper.semAt_some

theorem infoString : (Try.prog.info? 9).map (fun i => (i.zero, i.size, i.bytes)) = some (some (.string { data := #[] }), 1, 16) := by kernel_rfl

/-- what the box 'end' holds -/
def endV (fs : List (Nat × Bytes)) : Int := match fs.getLast? with | none => 0 | some x => wrap64 (wrap64 ((x.1 : Int) + 8) + (x.2.length : Int))
theorem endV_snoc (fs : List (Nat × Bytes)) (x : Nat × Bytes) : endV (fs ++ [x]) = wrap64 (wrap64 ((x.1 : Int) + 8) + (x.2.length : Int)) := by simp [endV]
theorem endV_is (fs : List (Nat × Bytes)) (h : endOf fs ≤ 9223372036854775807) : endV fs = (endOf fs : Int) := by
  unfold endV endOf at *
  cases hg : fs.getLast? with
  | none => rfl
  | some x =>
    rw [hg] at h
    dsimp only at h ⊢
    rw [IntWalk.wrap64_in ((x.1 : Int) + 8) ⟨by omega, by omega⟩, IntWalk.wrap64_in _ ⟨by omega, by omega⟩]
    omega

theorem ownsRow_mono {w : World} {base base' : Nat} {e : TypeId} {size : Nat} {v : Value} {n : Nat} {xs : List Value} (h : w.ownsRow base e size v n xs) (hb : base' ≤ base) : w.ownsRow base' e size v n xs := by
  obtain ⟨h1, h2⟩ := h
  refine ⟨h1, ?_⟩
  rcases h2 with h2 | ⟨g, cap, cur, hv, hg, r⟩
  · exact .inl h2
  · exact .inr ⟨g, cap, cur, hv, Nat.le_trans hb hg, r⟩
theorem ownsRow_ne {w : World} {base : Nat} {e : TypeId} {size : Nat} {v : Value} {n : Nat} {xs : List Value} (h : w.ownsRow base e size v n xs) {b : Nat} (hb : b < base) : some b ≠ v.ownBlock := by
  intro e'
  have := (h.lt b e'.symm).1
  omega
abbrev strs (fs : List (Nat × Bytes)) : List Value := fs.map fun x => Value.string (str x.2)

set_option maxRecDepth 100000 in
set_option maxHeartbeats 4000000 in
theorem all_in (s : ByteArray) (hs : s.size ≤ maxLen) (hN : (scan s.data.toList 0).1.length * 16 ≤ 140737488355328) (w : World) :
    Calls Try.prog 26 #[.string s] w fun e W' => ∃ v, e = .returned (.tuple #[v, .int .i64 (allOf s.data.toList).2.1, .int .i64 (allOf s.data.toList).2.2]) ∧
      W'.ownsRow w.heap.size 9 1 v (scan s.data.toList 0).1.length (strs (scan s.data.toList 0).1) ∧ Below w.heap.size w W' := by
  have hs' := hs
  unfold maxLen at hs
  obtain ⟨i0, hi, hz0, hz1, hz2⟩ := info_parts infoString
  refine (callsIn_wide (n := 5)).1 ?_
  refine callsIn_of_wp_marks Try.func26 rfl trivial ?_ rfl
  simp only [Try.ntmps26, List.size_toArray, List.length_cons, List.length_nil, Nat.reduceAdd, Nat.reduceSub, Array.replicate_succ, Array.replicate_zero, List.push_toArray, List.append_toArray, List.nil_append, List.cons_append]
  gi_wp2_with (refine ⟨trivial, ?_⟩; gi_at_call 50; refine (each_in _ s _).mono ?_; rintro e w' ⟨rfl, rfl⟩)
  have bO := Boxed.new w 66 (.slice none 0 0)
  have bE := Boxed.new (w.alloc (.cells #[.slice none 0 0] 66)) 3 (.int .i64 0)
  have bN := Boxed.new ((w.alloc (.cells #[.slice none 0 0] 66)).alloc (.cells #[.int .i64 0] 3)) 9 (.string s)
  simp only [World.size_alloc] at bE bN
  have hB0 : Below w.heap.size w (((w.alloc (.cells #[.slice none 0 0] 66)).alloc (.cells #[.int .i64 0] 3)).alloc (.cells #[.string s] 9)) := (((Below.refl _ w).alloc (Nat.le_refl _) _).alloc (by simp) _).alloc (by simp; omega) _
  refine wpIn_rangeFunc_ownG rfl (by omega) (gf := 73) (lb := #[.pointer (some ⟨w.heap.size + 2, 0, none⟩)]) rfl trivial (enters_of Try.func73 (by kernel_rfl) rfl)
    (each_stops _ (by omega) (w.heap.size + 2) w.heap.size s hs' _ (by simp) bN.cell) keepsBox_t (keepsBox_b (by simp; omega) (by simp)) (Below.refl _ _) (fun _ => rfl)
    (fun pre W => (∃ v, Boxed W w.heap.size 66 v ∧ W.ownsRow (w.heap.size + 3) 9 1 v pre.length (strs pre) ∧ True) ∧ Boxed W (w.heap.size + 1) 3 (.int .i64 (endV pre)) ∧ Boxed W (w.heap.size + 2) 9 (.string s) ∧ Below w.heap.size w W)
    (fun _ _ _ => False)
    (OwnFrom.and (Own.from (holdsRow_own (w.heap.size + 3) w.heap.size 66 9 1 (fun pre => pre.length) (fun pre => strs pre) (fun _ _ => True)) _) (OwnFrom.and (Own.from (boxed_own _ _ _) _) (OwnFrom.and (Own.from (boxed_own _ _ _) _) (ownFrom_below (Nat.le_refl _) (by simp; omega)))))
    (fun _ _ _ _ _ hs _ _ => hs)
    ⟨⟨_, (bO.alloc _).alloc _, World.ownsRow_nil _ _ _ _, trivial⟩, bE.alloc _, bN, hB0⟩
    (fun x => { tmps := #[.string s, undef, .slice none 0 0, .int .i64 0, .int .i64 0, .pointer (some ⟨w.heap.size, 0, none⟩), .pointer (some ⟨w.heap.size + 1, 0, none⟩), .int .i64 x.1, .string (str x.2), undef, undef, undef, .string s, .func (.func 73) #[] #[.pointer (some ⟨w.heap.size + 2, 0, none⟩)], .int .i64 x.1, .string (str x.2), undef, undef, undef, undef, undef, undef, undef, undef, undef, undef, undef, undef, undef, undef, undef, undef, undef, undef, undef, undef, undef, undef, undef, undef, undef, undef], defers := [] }) ?assign ?body ?done ?stop
  case assign =>
    intro l x W K hK
    gi_wp2
    exact hK
  case body =>
    rintro l pre x W ⟨⟨v, hv, hrow, _⟩, hE, hS, hB⟩ hlt
    have hlt2 : (pre.length + 1) * 16 ≤ 140737488355328 := by omega
    have hlt3 : pre.length + 1 ≤ maxLen := by unfold maxLen; omega
    have hc := hv.cell
    have hsx : (str x.2).size = x.2.length := str_size _
    have HE := hid (endV_snoc pre x)
    have hBs := hB.size
    have hBs3 : w.heap.size + 3 ≤ W.heap.size := hS.lt
    gi_wp2_with (gi_at_builtin; refine wpListIn_append_own _ rfl _ _ 66 rfl (w.heap.size + 3) 9 i0 (.string { data := #[] }) 1 16 Try.underlying66 hi hz0 hz1 hz2 rfl (by decide) _ _ _ rfl (hrow.alloc _) ⟨W.heap.size, 0, none⟩ 1 1 [.string (str x.2)] rfl rfl (cell_one_new _ _ _) (by simp [Value.oneCell']) (by omega) (by omega) (by simp; omega) ?_; intro v' w1 hown' hgrow _; obtain ⟨g', cap', rfl⟩ := ownsRow_succ hown'; obtain ⟨hv1, hv2, hr2, hk2, hb2⟩ := hv.appended (by decide) (ownsRow_mono hrow (Nat.le_add_right _ 3)) hBs (Nat.le_refl _) (ownsRow_mono hown' (Nat.le_add_right _ 3)) hgrow; clear hr2; have hc1 := hv1.cell; have hf1 := hv1.frozen; have hE1 := (hE.alloc _).kept hgrow (hE.not_row (by decide) hrow); have hE2 := hE1.other (B' := w.heap.size) (by omega) (.slice (some ⟨g', 0, none⟩) (pre.length + 1) cap'); have he2 := hE2.cell; have he3 := hE2.frozen)
    have hS1 := (hS.alloc (.cells #[.string (str x.2)] 9)).kept hgrow (ownsRow_ne hrow (by omega))
    have hS2 := (hS1.other (B' := w.heap.size) (by omega) (.slice (some ⟨g', 0, none⟩) (pre.length + 1) cap')).other (B' := w.heap.size + 1) (by omega) (.int .i64 (wrap64 (wrap64 ((x.1 : Int) + 8) + (x.2.length : Int))))
    have hr1 := (hown'.kept (grownBy_setCell' w1 w.heap.size (.slice (some ⟨g', 0, none⟩) (pre.length + 1) cap')) (.inr (ownsRow_ne hown' (by omega)).symm)).kept (grownBy_setCell' _ (w.heap.size + 1) (.int .i64 (wrap64 (wrap64 ((x.1 : Int) + 8) + (x.2.length : Int))))) (.inr (ownsRow_ne hown' (by omega)).symm)
    have hb3 := hb2.setCell (p := ⟨w.heap.size + 1, 0, none⟩) (Nat.le_succ _) (.int .i64 (wrap64 (wrap64 ((x.1 : Int) + 8) + (x.2.length : Int))))
    exact ⟨(hk2.trans (KeepsOthers.setCell _ _ _)).from _, ⟨hb3, (show _ = _ from hS2).trans (show _ = _ from hS).symm⟩, ⟨_, hv2.other (by omega) _, by simpa using hr1, trivial⟩, by rw [HE.out]; exact hE2.set _, hS2, hB.trans hb3⟩
  case done =>
    rintro D ys W hD rfl ⟨⟨v, hv, hrow, _⟩, hE, hS, hB⟩ hK
    have hle := allOf_le s.data.toList
    rw [len_of] at hle
    rw [endV_is _ (by rw [allOf_end]; omega), allOf_end] at hE
    have hc := hv.cell
    have he := hE.cell
    have HA1 := hid (show (allOf s.data.toList).2.1 = (scan s.data.toList 0).2 from rfl)
    have HA2 := hid (show (allOf s.data.toList).2.2 = if (scan s.data.toList 0).2 = s.data.toList.length then 0 else (cutOf (s.data.toList.drop (scan s.data.toList 0).2)).2.2 from rfl)
    by_cases hend : (scan s.data.toList 0).2 = s.size
    · have ht : (((scan s.data.toList 0).2 : Int) == (s.size : Int)) = true := by rw [beq_iff_eq]; omega
      have HE := hid hend
      clear hend
      gi_wp2
      gi_region
      all_goals gi_wp2
      refine ⟨by simp, .inl ⟨_, _, rfl, run_takeDeferred (show W.drew.heap[D]? = some (.deferred (some [])) from hK), ?_⟩⟩
      rw [HA1.out, HA2.out, if_pos (by rw [len_of]; exact HE.out)]
      exact ⟨_, results_tmp3 rfl _ _ _, v, rfl, ownsRow_mono (ownsRow_putObj hrow.drew _ (show W.drew.heap[D]? = _ from hK) rfl) (Nat.le_add_right _ 3), hB.drew.trans (belowK_b (w := w) (Nat.le_refl _) W.drew D _ _ (by simp at hD; omega) (show W.drew.heap[D]? = _ from hK) rfl rfl)⟩
    · have ht : (((scan s.data.toList 0).2 : Int) == (s.size : Int)) = false := by rw [beq_eq_false_iff_ne]; omega
      have HE := hid hend
      clear hend
      gi_wp2_with (refine ⟨trivial, ?_⟩; gi_at_call 51; refine (callsIn_wide.2 (cut_at s hs' _ _)).mono ?_; rintro e w2 ⟨rfl, hb2⟩)
      have hc2 : w2.cell? ⟨w.heap.size, 0, none⟩ = some v := (hb2.cell (p := ⟨w.heap.size, 0, none⟩) (World.block_lt_of_cell? _ _ hc)).trans hc
      have he2 : w2.cell? ⟨w.heap.size + 1, 0, none⟩ = some (.int .i64 ((scan s.data.toList 0).2 : Int)) := (hb2.cell (p := ⟨w.heap.size + 1, 0, none⟩) (World.block_lt_of_cell? _ _ he)).trans he
      have hK2 : w2.heap[D]? = some (.deferred (some [])) := (hb2.block D (Array.getElem?_eq_some_iff.1 hK).1).trans hK
      have hrow2 := hrow.kept (below_grown hb2) (by cases hv0 : v.ownBlock <;> simp)
      gi_region
      all_goals gi_wp2
      refine ⟨by simp, .inl ⟨_, _, rfl, run_takeDeferred (show w2.drew.heap[D]? = some (.deferred (some [])) from hK2), ?_⟩⟩
      rw [HA1.out, HA2.out, if_neg (by rw [len_of]; exact HE.out)]
      exact ⟨_, results_tmp3 rfl _ _ _, v, rfl, ownsRow_mono (ownsRow_putObj hrow2.drew _ (show w2.drew.heap[D]? = _ from hK2) rfl) (Nat.le_add_right _ 3), ((hB.trans (hb2.mono hB.size)).drew).trans (belowK_b (w := w) (Nat.le_refl _) w2.drew D _ _ (by simp at hD; omega) (show w2.drew.heap[D]? = _ from hK2) rfl rfl)⟩
  case stop =>
    rintro D c pre W _ _ h _
    exact h.elim
end Go.Proofs.Ytmehcogaopackaa
