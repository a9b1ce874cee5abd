/-
  PLAIN: what is written is read as it was; what is read, written anew, is the bytes that were read.
-/
import Derived.Test.YtgkapgfpalbkjaaWReadMs
import Derived.Test.YtgkapgfpalbkjaaWWriteMs
namespace Go.Proofs.Ytgkapgfpalbkjaa
set_option linter.unusedVariables false

/-- a reader without a fault, before whose place r stands -/
def At (s : Bytes) (st : Nat × Nat) (r : Bytes) : Prop := st.2 = 0 ∧ st.1 ≤ s.length ∧ s.drop st.1 = r
theorem At.start (s : Bytes) : At s (0, 0) s := ⟨rfl, Nat.zero_le _, rfl⟩
theorem At.step {s : Bytes} {st : Nat × Nat} {a r : Bytes} (h : At s st (a ++ r)) : At s (st.1 + a.length, 0) r := by
  obtain ⟨_, h2, h3⟩ := h
  have hl := congrArg List.length h3
  rw [List.length_drop, List.length_append] at hl
  refine ⟨rfl, by simp only; omega, ?_⟩
  simp only
  rw [← List.drop_drop, h3, List.drop_left]
theorem bnd_fwd {room : Bool} {s : Bytes} {st : Nat × Nat} {n m : Nat} {r : Bytes} (h : At s st (num n ++ r)) (hn : n < top64) (hm : n ≤ m) (hr : room = true → n ≤ r.length) : bnd room s st.1 st.2 m = (n, (num n).length, st.1 + (num n).length, 0) := by
  obtain ⟨h1, h2, h3⟩ := h
  have hl := congrArg List.length h3
  rw [List.length_drop, List.length_append] at hl
  unfold bnd
  rw [if_neg (by omega), h3, scan0_num n hn r]
  simp only
  rw [if_neg (by simp), if_neg (by omega)]
  split
  · rename_i hc
    simp only [Bool.and_eq_true, decide_eq_true_eq] at hc
    have := hr hc.1
    omega
  · rfl
theorem pNum_fwd {s : Bytes} {st : Nat × Nat} {n : Nat} {r : Bytes} (h : At s st (num n ++ r)) (hn : n < top64) : ∃ st', pNum s st = (n, st') ∧ At s st' r :=
  ⟨_, by unfold pNum; rw [bnd_fwd h hn (by unfold top64 at hn; omega) (by simp)], h.step⟩
theorem pCount_fwd {m : Nat} {s : Bytes} {st : Nat × Nat} {n : Nat} {r : Bytes} (h : At s st (num n ++ r)) (hn : n < top64) (hm : n ≤ m) : ∃ st', pCount m s st = (n, st') ∧ At s st' r :=
  ⟨_, by unfold pCount; rw [bnd_fwd h hn hm (by simp)], h.step⟩
theorem pText_fwd {m : Nat} {s : Bytes} {st : Nat × Nat} {x r : Bytes} (h : At s st (text x ++ r)) (hn : x.length < top64) (hm : x.length ≤ m) : ∃ st', pText m s st = (x, st') ∧ At s st' r := by
  have h' : At s st (num x.length ++ (x ++ r)) := by unfold text at h; rw [List.append_assoc] at h; exact h
  have h2 := h'.step
  have hp := num_pos x.length
  refine ⟨(st.1 + (num x.length).length + x.length, 0), ?_, h2.step⟩
  unfold pText
  rw [bnd_fwd h' hn hm (by intro _; rw [List.length_append]; omega)]
  unfold rtext
  simp only
  rw [if_neg (by omega)]
  have := h2.2.2
  simp only at this
  rw [this]
  simp
theorem many_cons {σ α : Type} (one : σ → α × σ) : ∀ (n : Nat) (st : σ), many one (n + 1) st = ((one st).1 :: (many one n (one st).2).1, (many one n (one st).2).2)
  | 0, st => by simp [many]
  | n + 1, st => by
    rw [many, many_cons one n st]
    simp [many]
theorem many_fwd {α : Type} {s : Bytes} (one : Nat × Nat → α × (Nat × Nat)) (f : α → Bytes) (r : Bytes) : ∀ (l : List α) (st : Nat × Nat), (∀ x ∈ l, ∀ st r, At s st (f x ++ r) → ∃ st', one st = (x, st') ∧ At s st' r) → At s st ((l.map f).flatten ++ r) → ∃ st', many one l.length st = (l, st') ∧ At s st' r
  | [], st, _, h => ⟨st, rfl, by simpa using h⟩
  | x :: l, st, hf, h => by
    obtain ⟨st1, h1, h2⟩ := hf x (List.mem_cons_self ..) st ((l.map f).flatten ++ r) (by simpa using h)
    obtain ⟨st2, h3, h4⟩ := many_fwd one f r l st1 (fun y hy => hf y (List.mem_cons_of_mem _ hy)) h2
    refine ⟨st2, ?_, h4⟩
    rw [List.length_cons, many_cons, h1]
    simp only
    rw [h3]

/-- the reader went without a fault from st to st', past a -/
def Past (s : Bytes) (st st' : Nat × Nat) (a : Bytes) : Prop := st.2 = 0 ∧ st'.1 ≤ s.length ∧ s.take st'.1 = s.take st.1 ++ a
theorem bnd_back {room : Bool} {s : Bytes} {t e m n z t' : Nat} (h : bnd room s t e m = (n, z, t', 0)) (ht : t ≤ s.length) : e = 0 ∧ t' ≤ s.length ∧ n ≤ m ∧ n < top64 ∧ 0 < z ∧ t' = t + z ∧ s.take t' = s.take t ++ num n ∧ (room = true → t' + n ≤ s.length) := by
  have h1 := scan0_one (s.drop t)
  unfold bnd at h
  by_cases he : e ≠ 0
  · rw [if_pos he] at h
    simp only [Prod.mk.injEq] at h
    omega
  rw [if_neg he] at h
  generalize scan0 (s.drop t) = q at *
  obtain ⟨n', z', er⟩ := q
  simp only at h
  by_cases her : er ≠ 0
  · rw [if_pos her] at h
    simp only [Prod.mk.injEq] at h
    omega
  rw [if_neg her] at h
  obtain rfl : er = 0 := by omega
  obtain ⟨g1, g2, g3, g4⟩ := h1 n' z' rfl
  rw [List.length_drop] at g3
  by_cases hm : m < n'
  · rw [if_pos hm] at h
    simp at h
  rw [if_neg hm] at h
  by_cases hr : (room && decide (s.length - t - z' < n')) = true
  · rw [if_pos hr] at h
    simp at h
  rw [if_neg hr] at h
  simp only [Prod.mk.injEq, and_true] at h
  obtain ⟨rfl, rfl, rfl⟩ := h
  refine ⟨by omega, by omega, by omega, g1, g2, rfl, ?_, fun hr' => ?_⟩
  · rw [g4, List.take_add]
  · rw [hr'] at hr
    simp at hr
    omega
theorem pNum_back {s : Bytes} {st st' : Nat × Nat} {n : Nat} (h : pNum s st = (n, st')) (ht : st.1 ≤ s.length) (he : st'.2 = 0) : Past s st st' (num n) := by
  unfold pNum at h
  generalize hb : bnd false s st.1 st.2 18446744073709551615 = p at h
  obtain ⟨n', z, t', e'⟩ := p
  simp only [Prod.mk.injEq] at h
  obtain ⟨rfl, rfl⟩ := h
  simp only at he
  subst he
  obtain ⟨h1, h2, _, _, _, _, h3, _⟩ := bnd_back hb ht
  exact ⟨h1, h2, h3⟩
theorem pCount_back {m : Nat} {s : Bytes} {st st' : Nat × Nat} {n : Nat} (h : pCount m s st = (n, st')) (ht : st.1 ≤ s.length) (he : st'.2 = 0) : Past s st st' (num n) := by
  unfold pCount at h
  generalize hb : bnd false s st.1 st.2 m = p at h
  obtain ⟨n', z, t', e'⟩ := p
  simp only [Prod.mk.injEq] at h
  obtain ⟨rfl, rfl⟩ := h
  simp only at he
  subst he
  obtain ⟨h1, h2, _, _, _, _, h3, _⟩ := bnd_back hb ht
  exact ⟨h1, h2, h3⟩
theorem pText_back {m : Nat} {s : Bytes} {st st' : Nat × Nat} {x : Bytes} (h : pText m s st = (x, st')) (ht : st.1 ≤ s.length) (he : st'.2 = 0) : Past s st st' (text x) := by
  unfold pText rtext at h
  generalize hb : bnd true s st.1 st.2 m = p at h
  obtain ⟨n', z, t', e'⟩ := p
  simp only at h
  by_cases hz : z = 0
  · rw [if_pos hz] at h
    simp only [Prod.mk.injEq] at h
    obtain ⟨_, rfl⟩ := h
    simp only at he
    subst he
    have := (bnd_back hb ht).2.2.2.2.1
    omega
  · rw [if_neg hz] at h
    simp only [Prod.mk.injEq] at h
    obtain ⟨rfl, rfl⟩ := h
    simp only at he
    subst he
    obtain ⟨h1, h2, _, _, _, _, h3, h4⟩ := bnd_back hb ht
    have h5 := h4 rfl
    refine ⟨h1, h5, ?_⟩
    have hl : ((s.drop t').take n').length = n' := by rw [List.length_take, List.length_drop]; omega
    unfold text
    rw [hl]
    simp only
    rw [List.take_add, h3, List.append_assoc]
theorem Past.trans {s : Bytes} {a b c : Nat × Nat} {x y : Bytes} (h : Past s a b x) (g : Past s b c y) : Past s a c (x ++ y) := ⟨h.1, g.2.1, by rw [g.2.2, h.2.2, List.append_assoc]⟩
theorem many_place {α : Type} {s : Bytes} (one : Nat × Nat → α × (Nat × Nat)) (hp : ∀ st, st.1 ≤ s.length → (one st).2.1 ≤ s.length) : ∀ (n : Nat) (st : Nat × Nat), st.1 ≤ s.length → (many one n st).2.1 ≤ s.length
  | 0, _, h => h
  | n + 1, st, h => hp _ (many_place one hp n st h)
theorem many_back {α : Type} {s : Bytes} (one : Nat × Nat → α × (Nat × Nat)) (f : α → Bytes) (hp : ∀ st, st.1 ≤ s.length → (one st).2.1 ≤ s.length) (hf : ∀ st x st', one st = (x, st') → st.1 ≤ s.length → st'.2 = 0 → Past s st st' (f x)) : ∀ (n : Nat) (st : Nat × Nat), st.1 ≤ s.length → (many one n st).2.2 = 0 → Past s st (many one n st).2 (((many one n st).1).map f).flatten
  | 0, st, h, he => ⟨he, h, by simp [many]⟩
  | n + 1, st, h, he => by
    have h1 := hf (many one n st).2 _ _ rfl (many_place one hp n st h) he
    have h2 := many_back one f hp hf n st h h1.1
    have := h2.trans h1
    simpa [many] using this
theorem many_mem {α : Type} {σ : Type} (one : σ → α × σ) (P : α → Prop) (hP : ∀ st, P (one st).1) : ∀ (n : Nat) (st : σ), ∀ x ∈ (many one n st).1, P x
  | 0, _, x, hx => by simp [many] at hx
  | n + 1, st, x, hx => by
    simp only [many, List.mem_append, List.mem_singleton] at hx
    rcases hx with hx | rfl
    · exact many_mem one P hP n st x hx
    · exact hP _
theorem pNum_place (s : Bytes) (st : Nat × Nat) (h : st.1 ≤ s.length) : (pNum s st).2.1 ≤ s.length := bnd_place _ _ _ _ _ h
theorem pCount_place (m : Nat) (s : Bytes) (st : Nat × Nat) (h : st.1 ≤ s.length) : (pCount m s st).2.1 ≤ s.length := bnd_place _ _ _ _ _ h
theorem pEnd_ok {s : Bytes} {st : Nat × Nat} (h : pEnd s st = 0) : st.2 = 0 ∧ s.length ≤ st.1 := by
  unfold pEnd at h
  split at h
  · omega
  · rename_i hc; omega
theorem rdRange_place (s : Bytes) (st : Nat × Nat) (h : st.1 ≤ s.length) : (rdRange s st).2.1 ≤ s.length := pNum_place s _ (pNum_place s st h)
theorem rdRange_back (s : Bytes) (st : Nat × Nat) (x : Nat × Nat) (st' : Nat × Nat) (h : rdRange s st = (x, st')) (ht : st.1 ≤ s.length) (he : st'.2 = 0) : Past s st st' (rgBytes x) := by
  unfold rdRange at h
  simp only [Prod.mk.injEq] at h
  obtain ⟨rfl, rfl⟩ := h
  have h2 := pNum_back (s := s) (st := (pNum s st).2) rfl (pNum_place s st ht) he
  have h1 := pNum_back (s := s) (st := st) rfl ht h2.1
  exact h1.trans h2
theorem rdEntry_place (s : Bytes) (st : Nat × Nat) (h : st.1 ≤ s.length) : (rdEntry s st).2.1 ≤ s.length := pText_place _ s _ (pCount_place _ s _ (pNum_place s st h))
theorem rdEntry_back (s : Bytes) (st : Nat × Nat) (x : En) (st' : Nat × Nat) (h : rdEntry s st = (x, st')) (ht : st.1 ≤ s.length) (he : st'.2 = 0) : Past s st st' (enBytes x) := by
  unfold rdEntry at h
  simp only [Prod.mk.injEq] at h
  obtain ⟨rfl, rfl⟩ := h
  have h3 := pText_back (s := s) (st := (pCount 3 s (pNum s st).2).2) rfl (pCount_place _ s _ (pNum_place s st ht)) he
  have h2 := pCount_back (s := s) (st := (pNum s st).2) rfl (pNum_place s st ht) h3.1
  have h1 := pNum_back (s := s) (st := st) rfl ht h2.1
  exact (h1.trans h2).trans h3
theorem rdConf_back (s : Bytes) (st : Nat × Nat) (x : Int) (st' : Nat × Nat) (h : rdConf s st = (x, st')) (ht : st.1 ≤ s.length) (he : st'.2 = 0) : Past s st st' (cfBytes x) := by
  unfold rdConf at h
  simp only [Prod.mk.injEq] at h
  obtain ⟨rfl, rfl⟩ := h
  exact pCount_back (s := s) (st := st) rfl ht he
theorem rdRange_fwd {s : Bytes} (x : Nat × Nat) (h1 : x.1 < top64) (h2 : x.2 < top64) (st : Nat × Nat) (r : Bytes) (h : At s st (rgBytes x ++ r)) : ∃ st', rdRange s st = (x, st') ∧ At s st' r := by
  unfold rgBytes at h
  rw [List.append_assoc] at h
  obtain ⟨s1, a1, b1⟩ := pNum_fwd h h1
  obtain ⟨s2, a2, b2⟩ := pNum_fwd b1 h2
  exact ⟨s2, by unfold rdRange; simp only [a1, a2], b2⟩
theorem rdEntry_fwd {s : Bytes} (x : En) (h1 : x.term < top64) (h2 : 0 ≤ x.kind ∧ x.kind ≤ 3) (h3 : x.data.length ≤ 2048) (st : Nat × Nat) (r : Bytes) (h : At s st (enBytes x ++ r)) : ∃ st', rdEntry s st = (x, st') ∧ At s st' r := by
  obtain ⟨t, k, d⟩ := x
  simp only at h1 h2 h3
  obtain ⟨n, rfl⟩ := Int.eq_ofNat_of_zero_le h2.1
  unfold enBytes at h
  simp only [List.append_assoc, Int.toNat_natCast] at h
  obtain ⟨s1, a1, b1⟩ := pNum_fwd h h1
  obtain ⟨s2, a2, b2⟩ := pCount_fwd (m := 3) b1 (by unfold top64; omega) (by omega)
  obtain ⟨s3, a3, b3⟩ := pText_fwd (m := 2048) b2 (by unfold top64; omega) h3
  exact ⟨s3, by unfold rdEntry; simp only [a1, a2, a3], b3⟩
theorem rdConf_fwd {s : Bytes} (x : Int) (h : 0 ≤ x ∧ x ≤ 5) (st : Nat × Nat) (r : Bytes) (ha : At s st (cfBytes x ++ r)) : ∃ st', rdConf s st = (x, st') ∧ At s st' r := by
  obtain ⟨n, rfl⟩ := Int.eq_ofNat_of_zero_le h.1
  unfold cfBytes at ha
  simp only [Int.toNat_natCast] at ha
  obtain ⟨s1, a1, b1⟩ := pCount_fwd (m := 5) ha (by unfold top64; omega) (by omega)
  exact ⟨s1, by unfold rdConf; simp only [a1], b1⟩
end Go.Proofs.Ytgkapgfpalbkjaa
