/-
  PLAIN: a row of frames, cut off anywhere: just the frames that are whole there are found.
-/
import Derived.Test.YtndafpmngfcibaaScan
namespace Go.Proofs.Ytndafpmngfcibaa

/-- frames, one behind the other -/
def rowB (ks : List Bytes) : Bytes := (ks.map frame).flatten
theorem rowB_nil : rowB [] = [] := rfl
theorem rowB_cons (b : Bytes) (r : List Bytes) : rowB (b :: r) = frame b ++ rowB r := by simp [rowB]
theorem rowB_snoc (ks : List Bytes) (b : Bytes) : rowB (ks ++ [b]) = rowB ks ++ frame b := by simp [rowB]

theorem cutOf_frame (b : Bytes) (hb : b.length ≤ 65536) (r : Bytes) : cutOf (frame b ++ r) = (b, 8 + b.length, 0) := by
  have hf : frame b ++ r = four b.length ++ (four (crc b) ++ (b ++ r)) := by simp [frame]
  have hn : num4 (frame b ++ r) = b.length := by rw [hf]; exact num4_four _ (by omega) _
  have hl : (frame b ++ r).length = 8 + b.length + r.length := by rw [List.length_append, frame_length]
  have h8 : (frame b ++ r).drop 8 = b ++ r := by
    rw [hf, show 8 = 4 + 4 from rfl, ← List.drop_drop]
    have e1 : ∀ (n : Nat) (x : Bytes), (four n ++ x).drop 4 = x := fun n x => rfl
    rw [e1, e1]
  have h4 : ((frame b ++ r).drop 4).take 4 = four (crc b) := by
    rw [hf]
    have e1 : ∀ (n : Nat) (x : Bytes), (four n ++ x).drop 4 = x := fun n x => rfl
    have e2 : ∀ (n : Nat) (x : Bytes), (four n ++ x).take 4 = four n := fun n x => rfl
    rw [e1, e2]
  have hbody : ((frame b ++ r).drop 8).take b.length = b := by rw [h8, List.take_left]
  have := cutOf_ok (l := frame b ++ r) (by omega) (by omega) (by omega) (by rw [hn, hbody, h4])
  rw [hn, hbody] at this
  exact this
theorem cutOf_torn (b : Bytes) (hb : b.length ≤ 65536) (r : Bytes) (m : Nat) (hm : m < 8 + b.length) : cutOf ((frame b ++ r).take m) = ([], 0, 3) := by
  have hl : ((frame b ++ r).take m).length = m := by rw [List.length_take, List.length_append, frame_length]; omega
  by_cases h8 : m < 8
  · exact cutOf_few (by omega)
  · have hn : num4 ((frame b ++ r).take m) = b.length := by
      have hf : frame b ++ r = four b.length ++ (four (crc b) ++ (b ++ r)) := by simp [frame]
      rw [hf, List.take_append, List.take_of_length_le (by rw [four_length]; omega)]
      exact num4_four _ (by omega) _
    exact cutOf_short (by omega) (by omega) (by omega)

theorem scan_torn : ∀ (ks : List Bytes), (∀ b ∈ ks, b.length ≤ 65536) → ∀ (l : Bytes) (p m : Nat), l.drop p = (rowB ks).take m → m ≤ (rowB ks).length → p ≤ l.length →
    ∃ k, k ≤ ks.length ∧ (scan l p).1.map (·.2) = ks.take k ∧ (scan l p).2 = p + (rowB (ks.take k)).length ∧ (rowB (ks.take k)).length ≤ m ∧ (k < ks.length → m < (rowB (ks.take (k + 1))).length) ∧
      ((rowB (ks.take k)).length ≠ m → (cutOf (l.drop (scan l p).2)).2.2 = 3)
  | [], _, l, p, m, hd, hm, hp => by
    have hl : l.length = p := by
      have := congrArg List.length hd
      rw [rowB_nil, List.take_nil, List.length_drop, List.length_nil] at this
      omega
    rw [scan_stop (fun c => by omega)]
    have hm0 : m = 0 := by simpa [rowB_nil] using hm
    exact ⟨0, Nat.le_refl _, rfl, by simp [rowB_nil], by simp [rowB_nil], fun h => by simp at h, fun h => absurd (by simp [rowB_nil, hm0]) h⟩
  | b :: r, hks, l, p, m, hd, hm, hp => by
    have hb : b.length ≤ 65536 := hks b (List.mem_cons_self)
    have hrl : (rowB (b :: r)).length = 8 + b.length + (rowB r).length := by rw [rowB_cons, List.length_append, frame_length]
    rw [rowB_cons] at hd
    have hlen : l.length - p = m := by
      have := congrArg List.length hd
      rw [List.length_drop, List.length_take, List.length_append, frame_length] at this
      omega
    by_cases hw : 8 + b.length ≤ m
    · have hd2 : l.drop p = frame b ++ (rowB r).take (m - (8 + b.length)) := by
        rw [hd, List.take_append, List.take_of_length_le (by rw [frame_length]; omega), frame_length]
      have hcut := cutOf_frame b hb ((rowB r).take (m - (8 + b.length)))
      rw [← hd2] at hcut
      have hgo := scan_go (l := l) (p := p) (by omega) (by rw [hcut])
      rw [hcut] at hgo
      have hdn : l.drop (p + (8 + b.length)) = (rowB r).take (m - (8 + b.length)) := by
        rw [← List.drop_drop, hd2, List.drop_append, List.drop_of_length_le (by rw [frame_length]; omega), frame_length]
        simp
      obtain ⟨k, h1, h2, h3, h4, h5, h6⟩ := scan_torn r (fun x hx => hks x (List.mem_cons_of_mem _ hx)) l (p + (8 + b.length)) (m - (8 + b.length)) hdn (by omega) (by omega)
      have hlk : (rowB ((b :: r).take (k + 1))).length = 8 + b.length + (rowB (r.take k)).length := by
        rw [List.take_succ_cons, rowB_cons, List.length_append, frame_length]
      rw [hgo]
      refine ⟨k + 1, by simp; omega, by simp [h2], by rw [hlk, h3]; omega, by rw [hlk]; omega, ?_, ?_⟩
      · intro hk
        have := h5 (by simpa using hk)
        rw [List.take_succ_cons, rowB_cons, List.length_append, frame_length]
        omega
      · intro hne
        exact h6 (by rw [hlk] at hne; omega)
    · have hcut := cutOf_torn b hb (rowB r) m (by omega)
      rw [← hd] at hcut
      rw [scan_stop (fun c => by have := c.2; rw [hcut] at this; cases this)]
      refine ⟨0, Nat.zero_le _, rfl, by simp [rowB_nil], by simp [rowB_nil], ?_, ?_⟩
      · intro _
        have : (rowB ((b :: r).take (0 + 1))).length = 8 + b.length := by
          rw [List.take_succ_cons, List.take_zero, rowB_cons, rowB_nil, List.length_append, frame_length]; rfl
        omega
      · intro _
        rw [hcut]

/-- what All finds of a row that is cut off -/
theorem all_torn (ks : List Bytes) (hks : ∀ b ∈ ks, b.length ≤ 65536) (m : Nat) (hm : m ≤ (rowB ks).length) :
    ∃ k, k ≤ ks.length ∧ (scan ((rowB ks).take m) 0).1.map (·.2) = ks.take k ∧ (allOf ((rowB ks).take m)).2.1 = (rowB (ks.take k)).length ∧ (rowB (ks.take k)).length ≤ m ∧ (k < ks.length → m < (rowB (ks.take (k + 1))).length) ∧
      (allOf ((rowB ks).take m)).2.2 = if m = (rowB (ks.take k)).length then 0 else 3 := by
  obtain ⟨k, h1, h2, h3, h4, h5, h6⟩ := scan_torn ks hks ((rowB ks).take m) 0 m rfl hm (Nat.zero_le _)
  refine ⟨k, h1, h2, by rw [show (allOf ((rowB ks).take m)).2.1 = (scan ((rowB ks).take m) 0).2 from rfl, h3, Nat.zero_add], h4, h5, ?_⟩
  have hl : ((rowB ks).take m).length = m := by rw [List.length_take]; omega
  unfold allOf
  dsimp only
  by_cases he : m = (rowB (ks.take k)).length
  · rw [if_pos he, if_pos (by rw [h3, hl]; omega)]
  · rw [if_neg he, if_neg (by rw [h3, hl]; omega)]
    exact h6 (fun e => he e.symm)
theorem rowB_take_le (ks : List Bytes) (k : Nat) : (rowB (ks.take k)).length ≤ (rowB ks).length := by
  have : rowB ks = rowB (ks.take k) ++ rowB (ks.drop k) := by
    unfold rowB
    rw [← List.flatten_append, ← List.map_append, List.take_append_drop]
  rw [this, List.length_append]
  omega
theorem rowB_take_succ (ks : List Bytes) (k : Nat) (h : k < ks.length) : (rowB (ks.take (k + 1))).length = (rowB (ks.take k)).length + (8 + ks[k].length) := by
  rw [List.take_succ_eq_append_getElem h, rowB_snoc, List.length_append, frame_length]
/-- what All finds of a whole row -/
theorem all_back (ks : List Bytes) (hks : ∀ b ∈ ks, b.length ≤ 65536) :
    (scan (rowB ks) 0).1.map (·.2) = ks ∧ (allOf (rowB ks)).2.1 = (rowB ks).length ∧ (allOf (rowB ks)).2.2 = 0 := by
  obtain ⟨k, h1, h2, h3, h4, h5, h6⟩ := all_torn ks hks (rowB ks).length (Nat.le_refl _)
  rw [List.take_length] at h2 h3 h6
  have hk : k = ks.length := by
    rcases Nat.lt_or_ge k ks.length with h | h
    · have := h5 h
      have := rowB_take_le ks (k + 1)
      omega
    · omega
  subst hk
  rw [List.take_length] at h2 h3 h6
  exact ⟨h2, h3, by rw [h6, if_pos rfl]⟩
end Go.Proofs.Ytndafpmngfcibaa
