/-
  PLAIN: the frames of bytes, one behind the other: where each begins, its body, and where they end.
-/
import Derived.Test.YtmehcogaopackaaCrc
namespace Go.Proofs.Ytmehcogaopackaa

/-- the frames from place p on, and where they end -/
def scanF (l : Bytes) : Nat → Nat → List (Nat × Bytes) × Nat
  | 0, p => ([], p)
  | f + 1, p =>
    if p < l.length ∧ (cutOf (l.drop p)).2.2 = 0 then
      ((p, (cutOf (l.drop p)).1) :: (scanF l f (p + (cutOf (l.drop p)).2.1)).1, (scanF l f (p + (cutOf (l.drop p)).2.1)).2)
    else ([], p)
def scan (l : Bytes) (p : Nat) : List (Nat × Bytes) × Nat := scanF l (l.length + 1 - p) p

theorem cutOf_cases (l : Bytes) : (∃ e, cutOf l = ([], 0, e) ∧ e ≠ 0 ∧ e ≤ 5) ∨ (cutOf l = ((l.drop 8).take (num4 l), 8 + num4 l, 0) ∧ 8 + num4 l ≤ l.length ∧ num4 l ≤ 65536 ∧ four (crc ((l.drop 8).take (num4 l))) = (l.drop 4).take 4) := by
  by_cases h1 : l.length < 8
  · exact .inl ⟨3, cutOf_few h1, by omega, by omega⟩
  by_cases h2 : 65536 < num4 l
  · exact .inl ⟨2, cutOf_long h1 h2, by omega, by omega⟩
  by_cases h3 : l.length < 8 + num4 l
  · exact .inl ⟨3, cutOf_short h1 h2 h3, by omega, by omega⟩
  by_cases h4 : four (crc ((l.drop 8).take (num4 l))) = (l.drop 4).take 4
  · exact .inr ⟨cutOf_ok h1 h2 h3 h4, by omega, by omega, h4⟩
  · exact .inl ⟨5, cutOf_sum h1 h2 h3 h4, by omega, by omega⟩
theorem cutOf_fine {l : Bytes} (h : (cutOf l).2.2 = 0) : (cutOf l).2.1 = 8 + (cutOf l).1.length ∧ (cutOf l).2.1 ≤ l.length ∧ (cutOf l).1.length ≤ 65536 := by
  rcases cutOf_cases l with ⟨e, he, h0, _⟩ | ⟨he, h8, hb, _⟩
  · rw [he] at h; exact absurd h h0
  · rw [he]
    have : ((l.drop 8).take (num4 l)).length = num4 l := by rw [List.length_take, List.length_drop]; omega
    refine ⟨?_, h8, ?_⟩
    · show 8 + num4 l = 8 + ((l.drop 8).take (num4 l)).length
      rw [this]
    · show ((l.drop 8).take (num4 l)).length ≤ 65536
      omega
theorem cutOf_err {l : Bytes} (h : (cutOf l).2.2 ≠ 0) : cutOf l = ([], 0, (cutOf l).2.2) := by
  rcases cutOf_cases l with ⟨e, he, _, _⟩ | ⟨he, _, _, _⟩
  · rw [he]
  · rw [he] at h; exact absurd rfl h
theorem cutOf_err_le (l : Bytes) : (cutOf l).2.2 ≤ 5 := by
  rcases cutOf_cases l with ⟨e, he, _, h5⟩ | ⟨he, _, _, _⟩
  · rw [he]; exact h5
  · rw [he]; exact Nat.zero_le _

theorem scanF_enough (l : Bytes) : ∀ (f g p : Nat), l.length < f + p → l.length < g + p → scanF l f p = scanF l g p
  | 0, 0, _, _, _ => rfl
  | 0, g + 1, p, h, _ => by
    have : ¬ (p < l.length ∧ (cutOf (l.drop p)).2.2 = 0) := fun c => by omega
    simp [scanF, this]
  | f + 1, 0, p, _, h => by
    have : ¬ (p < l.length ∧ (cutOf (l.drop p)).2.2 = 0) := fun c => by omega
    simp [scanF, this]
  | f + 1, g + 1, p, h1, h2 => by
    by_cases hc : p < l.length ∧ (cutOf (l.drop p)).2.2 = 0
    · have hf := (cutOf_fine hc.2).1
      have := scanF_enough l f g (p + (cutOf (l.drop p)).2.1) (by omega) (by omega)
      simp only [scanF]
      rw [if_pos hc, if_pos hc, this]
    · simp only [scanF]
      rw [if_neg hc, if_neg hc]
theorem scan_go {l : Bytes} {p : Nat} (h : p < l.length) (h0 : (cutOf (l.drop p)).2.2 = 0) :
    scan l p = ((p, (cutOf (l.drop p)).1) :: (scan l (p + (cutOf (l.drop p)).2.1)).1, (scan l (p + (cutOf (l.drop p)).2.1)).2) := by
  have hf := (cutOf_fine h0).1
  unfold scan
  rw [scanF_enough l (l.length + 1 - (p + (cutOf (l.drop p)).2.1)) (l.length - p) (p + (cutOf (l.drop p)).2.1) (by omega) (by omega)]
  have : l.length + 1 - p = (l.length - p) + 1 := by omega
  rw [this]
  simp only [scanF]
  rw [if_pos ⟨h, h0⟩]
theorem scan_stop {l : Bytes} {p : Nat} (h : ¬ (p < l.length ∧ (cutOf (l.drop p)).2.2 = 0)) : scan l p = ([], p) := by
  unfold scan
  cases l.length + 1 - p with
  | zero => rfl
  | succ n => simp only [scanF]; rw [if_neg h]

/-- where the last of the frames ends -/
def endOf (fs : List (Nat × Bytes)) : Nat := match fs.getLast? with | none => 0 | some (p, b) => p + 8 + b.length
theorem endOf_nil : endOf [] = 0 := rfl
theorem endOf_snoc (fs : List (Nat × Bytes)) (x : Nat × Bytes) : endOf (fs ++ [x]) = x.1 + 8 + x.2.length := by simp [endOf]
theorem scan_place {l : Bytes} : ∀ (k p : Nat), l.length - p = k → p ≤ l.length → (scan l p).2 ≤ l.length ∧ p ≤ (scan l p).2 ∧
    ((scan l p).1 = [] → (scan l p).2 = p) ∧ ((scan l p).1 ≠ [] → endOf (scan l p).1 = (scan l p).2) ∧
    (¬ ((scan l p).2 < l.length ∧ (cutOf (l.drop (scan l p).2)).2.2 = 0)) ∧ 8 * (scan l p).1.length ≤ (scan l p).2 - p := by
  intro k
  induction k using Nat.strongRecOn with
  | ind k ih =>
    intro p hk hp
    by_cases hc : p < l.length ∧ (cutOf (l.drop p)).2.2 = 0
    · have hf := cutOf_fine hc.2
      have hl : (l.drop p).length = l.length - p := List.length_drop
      have h1 := ih (l.length - (p + (cutOf (l.drop p)).2.1)) (by omega) (p + (cutOf (l.drop p)).2.1) rfl (by omega)
      rw [scan_go hc.1 hc.2]
      obtain ⟨a, b, c, d, e, g⟩ := h1
      dsimp only
      refine ⟨a, by omega, (fun x => by cases x), ?_, e, by simp only [List.length_cons]; omega⟩
      intro _
      by_cases hn : (scan l (p + (cutOf (l.drop p)).2.1)).1 = []
      · rw [hn, c hn]
        simp [endOf]
        omega
      · have := d hn
        rw [← this]
        unfold endOf
        rw [List.getLast?_cons]
        cases hg : (scan l (p + (cutOf (l.drop p)).2.1)).1.getLast? with
        | none => exact absurd (List.getLast?_eq_none_iff.1 hg) hn
        | some y => simp
    · rw [scan_stop hc]
      exact ⟨hp, Nat.le_refl _, fun _ => rfl, fun x => absurd rfl x, hc, by simp⟩

/-- what All answers: the bodies, where they end, the error's number -/
def allOf (l : Bytes) : List Bytes × Nat × Nat :=
  ((scan l 0).1.map (·.2), (scan l 0).2, if (scan l 0).2 = l.length then 0 else (cutOf (l.drop (scan l 0).2)).2.2)
theorem allOf_end (l : Bytes) : endOf (scan l 0).1 = (scan l 0).2 := by
  obtain ⟨_, _, c, d, _, _⟩ := scan_place (l := l) l.length 0 (by omega) (Nat.zero_le _)
  by_cases h : (scan l 0).1 = []
  · rw [h, c h]; rfl
  · exact d h
theorem allOf_le (l : Bytes) : (scan l 0).2 ≤ l.length := (scan_place (l := l) l.length 0 (by omega) (Nat.zero_le _)).1
theorem allOf_count (l : Bytes) : 8 * (scan l 0).1.length ≤ l.length := by
  obtain ⟨a, _, _, _, _, g⟩ := scan_place (l := l) l.length 0 (by omega) (Nat.zero_le _)
  omega
end Go.Proofs.Ytmehcogaopackaa
