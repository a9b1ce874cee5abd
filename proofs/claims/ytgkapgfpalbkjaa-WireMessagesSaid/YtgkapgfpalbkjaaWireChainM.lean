/-
  PLAIN: a message as it is read, whole; the law of what is written and read.
-/
import Derived.Test.YtgkapgfpalbkjaaWireChain
namespace Go.Proofs.Ytgkapgfpalbkjaa
open Go.RowKit
set_option linter.unusedVariables false
/-- a frame is cut as it was made, whatever stands behind it -/
theorem frame_cut (b : Bytes) (hb : b.length ≤ 65536) (r : Bytes) : cutOf (frame b ++ r) = (b, 8 + b.length, 0) := by
  have hf : frame b ++ r = four b.length ++ (four (crc b) ++ (b ++ r)) := by simp [frame]
  have hn : num4 (frame b ++ r) = b.length := by rw [hf]; exact num4_four _ (by omega) _
  have hl : (frame b ++ r).length = 8 + b.length + r.length := by rw [List.length_append, frame_length]
  have h8 : (frame b ++ r).drop 8 = b ++ r := by
    rw [hf, show 8 = 4 + 4 from rfl, ← List.drop_drop]
    have e1 : ∀ (n : Nat) (x : Bytes), (four n ++ x).drop 4 = x := fun n x => rfl
    rw [e1, e1]
  have h4 : ((frame b ++ r).drop 4).take 4 = four (crc b) := by
    rw [hf]
    have e1 : ∀ (n : Nat) (x : Bytes), (four n ++ x).drop 4 = x := fun n x => rfl
    have e2 : ∀ (n : Nat) (x : Bytes), (four n ++ x).take 4 = four n := fun n x => rfl
    rw [e1, e2]
  have hbody : ((frame b ++ r).drop 8).take b.length = b := by rw [h8, List.take_left]
  have := cutOf_ok (l := frame b ++ r) (by omega) (by omega) (by omega) (by rw [hn, hbody, h4])
  rw [hn, hbody] at this
  exact this
/-- what was cut without an error and is all there is, is a frame -/
theorem cut_frame {u t : Bytes} {n : Nat} (h : cutOf u = (t, n, 0)) : t.length ≤ 65536 ∧ n = 8 + t.length ∧ n ≤ u.length ∧ u.take n = frame t := by
  unfold cutOf at h
  by_cases h1 : u.length < 8
  · rw [if_pos h1] at h; simp at h
  rw [if_neg h1] at h
  by_cases h2 : 65536 < num4 u
  · rw [if_pos h2] at h; simp at h
  rw [if_neg h2] at h
  by_cases h3 : u.length < 8 + num4 u
  · rw [if_pos h3] at h; simp at h
  rw [if_neg h3] at h
  by_cases h4 : four (crc ((u.drop 8).take (num4 u))) = (u.drop 4).take 4
  · rw [if_pos h4] at h
    simp only [Prod.mk.injEq, and_true] at h
    obtain ⟨rfl, rfl⟩ := h
    have hl : ((u.drop 8).take (num4 u)).length = num4 u := by rw [List.length_take, List.length_drop]; omega
    refine ⟨by omega, by omega, by omega, ?_⟩
    unfold frame
    rw [hl, h4, four_num4 u (by omega)]
    rw [show 8 + num4 u = 4 + (4 + num4 u) by omega, List.take_add, List.take_add, List.drop_drop, List.append_assoc]
  · rw [if_neg h4] at h; simp at h
theorem cut_body_le (u : Bytes) : (cutOf u).1.length ≤ u.length := by
  unfold cutOf
  repeat' split
  all_goals simp only [List.length_nil, List.length_take, List.length_drop]
  all_goals omega
/-- a message as it is read, and the reader's state then -/
def msChain (s : Bytes) : Ms × (Nat × Nat) :=
  let a0 := pCount 11 s (0, 0)
  let a1 := pCount 5 s a0.2
  let a2 := pCount 5 s a1.2
  let a3 := pNum s a2.2
  let a4 := pNum s a3.2
  let a5 := pNum s a4.2
  let a6 := pNum s a5.2
  let a7 := pCount 1 s a6.2
  let a8 := pCount 8 s a7.2
  let a9 := many (rdEntry s) a8.1 a8.2
  let a10 := pCount 5 s a9.2
  let a11 := many (rdConf s) a10.1 a10.2
  let a12 := pCount 262144 s a11.2
  let a13 := pCount 262144 s a12.2
  let a14 := pText 4096 s a13.2
  (⟨a0.1, a1.1, a2.1, a3.1, a4.1, a5.1, a6.1, ((a7.1 : Int) == 1), a9.1, a11.1, a12.1, a13.1, a14.1⟩, a14.2)
/-- what ReadMessage tells -/
def rdMs (u : Bytes) : Ms × Nat := if (cutOf u).2.2 ≠ 0 then (Ms.zero, (cutOf u).2.2) else if (cutOf u).2.1 < u.length then (Ms.zero, 9) else msOut (cutOf u).1 (msChain (cutOf u).1).1 (msChain (cutOf u).1).2
theorem msChain_fit (s : Bytes) : (msChain s).1.fit := by
  unfold Ms.fit msChain
  simp only
  exact ⟨pNum_lt _ _, pNum_lt _ _, pNum_lt _ _, pNum_lt _ _, many_mem (rdEntry s) _ (fun st => pNum_lt _ _) _ _⟩
theorem msChain_data (s : Bytes) : ∀ e ∈ (msChain s).1.entries, e.data.length ≤ 2048 := by
  unfold msChain
  simp only
  exact many_mem (rdEntry s) (fun e => e.data.length ≤ 2048) (fun st => pText_le _ _ _) _ _
theorem msZero_fit : Ms.zero.fit := by unfold Ms.fit Ms.zero top64; simp
theorem msOut_fit (s : Bytes) : (msOut s (msChain s).1 (msChain s).2).1.fit := by
  have h := msChain_fit s
  generalize msChain s = q at *
  unfold msOut
  split
  · exact h
  · exact msZero_fit
theorem rdMs_fit (u : Bytes) : (rdMs u).1.fit := by
  have h := msOut_fit (cutOf u).1
  unfold rdMs
  generalize msOut (cutOf u).1 (msChain (cutOf u).1).1 (msChain (cutOf u).1).2 = q at *
  split
  · exact msZero_fit
  · split
    · exact msZero_fit
    · exact h
theorem rdConf_place (s : Bytes) (st : Nat × Nat) (h : st.1 ≤ s.length) : (rdConf s st).2.1 ≤ s.length := pCount_place _ s _ h
theorem readMs_any (u : Bytes) (hu : u.length ≤ 1152921504606846976) (w : World) :
    Calls Try.prog 17 #[.string (str u)] w fun e w' => ∃ vu vf, e = .returned (.tuple #[.agg ((rdMs u).1.cells vu vf), .int .i64 ((rdMs u).2 : Nat)]) ∧
      Cells [] w' vu (rdMs u).1.entries.length (enVals (rdMs u).1.entries) ∧ Cells [] w' vf (rdMs u).1.conf.length (intVals (rdMs u).1.conf) ∧ Below w.heap.size w w' := by
  have hm : u.length ≤ maxLen := by unfold maxLen; omega
  have hle := cut_body_le u
  rcases hc : cutOf u with ⟨s, n, er⟩
  rw [hc] at hle
  simp only at hle
  unfold rdMs
  rw [hc]
  simp only
  by_cases her : er ≠ 0
  · rw [if_pos her]
    exact (readMs_cut u s n er (hid hc) hm her w).mono fun _ _ ⟨h1, h2⟩ => ⟨.slice none 0 0, .slice none 0 0, h1, Cells.nil _ _, Cells.nil _ _, h2⟩
  rw [if_neg her]
  obtain rfl : er = 0 := by omega
  by_cases hn : n < u.length
  · rw [if_pos hn]
    exact (readMs_rest u s n (hid hc) hm hn w).mono fun _ _ ⟨h1, h2⟩ => ⟨.slice none 0 0, .slice none 0 0, h1, Cells.nil _ _, Cells.nil _ _, h2⟩
  rw [if_neg hn]
  rcases h0 : pCount 11 s (0, 0) with ⟨n0, st1⟩
  rcases h1 : pCount 5 s st1 with ⟨n1, st2⟩
  rcases h2 : pCount 5 s st2 with ⟨n2, st3⟩
  rcases h3 : pNum s st3 with ⟨n3, st4⟩
  rcases h4 : pNum s st4 with ⟨n4, st5⟩
  rcases h5 : pNum s st5 with ⟨n5, st6⟩
  rcases h6 : pNum s st6 with ⟨n6, st7⟩
  rcases h7 : pCount 1 s st7 with ⟨n7, st8⟩
  rcases h8 : pCount 8 s st8 with ⟨ne, st9⟩
  rcases h9 : many (rdEntry s) ne st9 with ⟨le, st10⟩
  rcases h10 : pCount 5 s st10 with ⟨nc, st11⟩
  rcases h11 : many (rdConf s) nc st11 with ⟨lc, st12⟩
  rcases h12 : pCount 262144 s st12 with ⟨n10, st13⟩
  rcases h13 : pCount 262144 s st13 with ⟨n11, st14⟩
  rcases h14 : pText 4096 s st14 with ⟨x12, st15⟩
  have hcn : msChain s = (⟨n0, n1, n2, n3, n4, n5, n6, ((n7 : Int) == 1), le, lc, n10, n11, x12⟩, st15) := by
    unfold msChain
    simp only [h0, h1, h2, h3, h4, h5, h6, h7, h8, h9, h10, h11, h12, h13, h14]
  have hfl := msChain_data s
  rw [hcn] at hfl ⊢
  exact readMs_at u s n (hid hc) hm hn (by omega) w (hid h0) (hid h1) (hid h2) (hid h3) (hid h4) (hid h5) (hid h6) (hid h7) (hid h8) (hid h9) (hid h10) (hid h11) (hid h12) (hid h13) (hid h14) _ rfl (hid (fun e he => by have := hfl e he; unfold maxLen; omega))

/-- what is read of a frame's body, written anew, is the body -/
theorem msOut_one (s : Bytes) (h : (msOut s (msChain s).1 (msChain s).2).2 = 0) : msOut s (msChain s).1 (msChain s).2 = ((msChain s).1, 0) ∧ mayMs (msChain s).1 = true ∧ (msChain s).1.body = s := by
  unfold msOut at h ⊢
  by_cases hp : pEnd s (msChain s).2 = 0 ∧ mayMs (msChain s).1 = true
  · rw [if_pos hp]
    refine ⟨rfl, hp.2, ?_⟩
    obtain ⟨he, hl⟩ := pEnd_ok hp.1
    clear h hp
    unfold msChain at *
    simp only at *
    generalize h0 : pCount 11 s (0, 0) = q0 at *
    generalize h1 : pCount 5 s q0.2 = q1 at *
    generalize h2 : pCount 5 s q1.2 = q2 at *
    generalize h3 : pNum s q2.2 = q3 at *
    generalize h4 : pNum s q3.2 = q4 at *
    generalize h5 : pNum s q4.2 = q5 at *
    generalize h6 : pNum s q5.2 = q6 at *
    generalize h7 : pCount 1 s q6.2 = q7 at *
    generalize h8 : pCount 8 s q7.2 = q8 at *
    have ml9 := many_len (rdEntry s) q8.1 q8.2
    generalize h9 : many (rdEntry s) q8.1 q8.2 = q9 at *
    generalize h10 : pCount 5 s q9.2 = q10 at *
    have ml11 := many_len (rdConf s) q10.1 q10.2
    generalize h11 : many (rdConf s) q10.1 q10.2 = q11 at *
    generalize h12 : pCount 262144 s q11.2 = q12 at *
    generalize h13 : pCount 262144 s q12.2 = q13 at *
    generalize h14 : pText 4096 s q13.2 = q14 at *
    have hle7 : q7.1 ≤ 1 := by rw [← h7]; exact pCount_le _ _ _
    have p0 : q0.2.1 ≤ s.length := by rw [← h0]; exact pCount_place _ _ _ (Nat.zero_le _)
    have p1 : q1.2.1 ≤ s.length := by rw [← h1]; exact pCount_place _ _ _ p0
    have p2 : q2.2.1 ≤ s.length := by rw [← h2]; exact pCount_place _ _ _ p1
    have p3 : q3.2.1 ≤ s.length := by rw [← h3]; exact pNum_place _ _ p2
    have p4 : q4.2.1 ≤ s.length := by rw [← h4]; exact pNum_place _ _ p3
    have p5 : q5.2.1 ≤ s.length := by rw [← h5]; exact pNum_place _ _ p4
    have p6 : q6.2.1 ≤ s.length := by rw [← h6]; exact pNum_place _ _ p5
    have p7 : q7.2.1 ≤ s.length := by rw [← h7]; exact pCount_place _ _ _ p6
    have p8 : q8.2.1 ≤ s.length := by rw [← h8]; exact pCount_place _ _ _ p7
    have p9 : q9.2.1 ≤ s.length := by rw [← h9]; exact many_place _ (rdEntry_place s) _ _ p8
    have p10 : q10.2.1 ≤ s.length := by rw [← h10]; exact pCount_place _ _ _ p9
    have p11 : q11.2.1 ≤ s.length := by rw [← h11]; exact many_place _ (rdConf_place s) _ _ p10
    have p12 : q12.2.1 ≤ s.length := by rw [← h12]; exact pCount_place _ _ _ p11
    have p13 : q13.2.1 ≤ s.length := by rw [← h13]; exact pCount_place _ _ _ p12
    have p14 : q14.2.1 ≤ s.length := by rw [← h14]; exact pText_place _ _ _ p13
    have b14 := pText_back h14 p13 he
    have b13 := pCount_back h13 p12 b14.1
    have b12 := pCount_back h12 p11 b13.1
    have b11 := many_back (rdConf s) cfBytes (rdConf_place s) (rdConf_back s) q10.1 q10.2 p10 (by rw [h11]; exact b12.1)
    rw [h11] at b11
    have b10 := pCount_back h10 p9 b11.1
    have b9 := many_back (rdEntry s) enBytes (rdEntry_place s) (rdEntry_back s) q8.1 q8.2 p8 (by rw [h9]; exact b10.1)
    rw [h9] at b9
    have b8 := pCount_back h8 p7 b9.1
    have b7 := pCount_back h7 p6 b8.1
    have b6 := pNum_back h6 p5 b7.1
    have b5 := pNum_back h5 p4 b6.1
    have b4 := pNum_back h4 p3 b5.1
    have b3 := pNum_back h3 p2 b4.1
    have b2 := pCount_back h2 p1 b3.1
    have b1 := pCount_back h1 p0 b2.1
    have b0 := pCount_back h0 (Nat.zero_le _) b1.1
    have hall := ((((((((((((((b0.trans b1).trans b2).trans b3).trans b4).trans b5).trans b6).trans b7).trans b8).trans b9).trans b10).trans b11).trans b12).trans b13).trans b14)
    have h := hall.2.2
    rw [List.take_of_length_le hl] at h
    simp only [List.take_zero, List.nil_append] at h
    rw [h]
    unfold Ms.body listB
    rw [ml9, ml11]
    simp only [Int.toNat_natCast, bitN_one _ hle7, List.map_cons, List.map_nil, List.flatten_cons, List.flatten_nil, List.append_nil, List.append_assoc]
  · rw [if_neg hp] at h
    simp at h
theorem msOut_back (x : Ms) (hm : mayMs x = true) (hf : x.fit) : ∃ st, msChain x.body = (x, st) ∧ pEnd x.body st = 0 := by
  have hp := mayMs_parts hm
  generalize hs : x.body = s
  have h' : At s (0, 0) x.body := by rw [hs]; exact At.start s
  clear hs
  obtain ⟨kind, src, dest, term, index, logTerm, commit, ok, entries, conf, offset, size, data⟩ := x
  unfold Ms.fit at hf
  simp only at hp hf
  obtain ⟨n0, rfl⟩ := Int.eq_ofNat_of_zero_le (a := kind) (by omega)
  obtain ⟨n1, rfl⟩ := Int.eq_ofNat_of_zero_le (a := src) (by omega)
  obtain ⟨n2, rfl⟩ := Int.eq_ofNat_of_zero_le (a := dest) (by omega)
  obtain ⟨n3, rfl⟩ := Int.eq_ofNat_of_zero_le (a := offset) (by omega)
  obtain ⟨n4, rfl⟩ := Int.eq_ofNat_of_zero_le (a := size) (by omega)
  obtain ⟨⟨_, p1⟩, ⟨_, p2⟩, ⟨_, p3⟩, p4, p5, p6, p7, ⟨_, p8⟩, ⟨_, p9⟩, p10⟩ := hp
  obtain ⟨f1, f2, f3, f4, f9⟩ := hf
  unfold Ms.body listB at h'
  simp only [Int.toNat_natCast, List.map_cons, List.map_nil, List.flatten_cons, List.flatten_nil, List.append_nil, List.append_assoc] at h'
  have hbit : bitN ok ≤ 1 := by unfold bitN; split <;> omega
  have t64 : (1000000 : Nat) < top64 := by unfold top64; omega
  obtain ⟨s1, e0, a⟩ := pCount_fwd (m := 11) h' (by omega) (by omega)
  obtain ⟨s2, e1, a⟩ := pCount_fwd (m := 5) a (by omega) (by omega)
  obtain ⟨s3, e2, a⟩ := pCount_fwd (m := 5) a (by omega) (by omega)
  obtain ⟨s4, e3, a⟩ := pNum_fwd a f1
  obtain ⟨s5, e4, a⟩ := pNum_fwd a f2
  obtain ⟨s6, e5, a⟩ := pNum_fwd a f3
  obtain ⟨s7, e6, a⟩ := pNum_fwd a f4
  obtain ⟨s8, e7, a⟩ := pCount_fwd (m := 1) a (by omega) hbit
  obtain ⟨s9, e8, a⟩ := pCount_fwd (m := 8) a (by omega) p4
  obtain ⟨s10, g8, a⟩ := many_fwd (rdEntry s) enBytes _ entries s9 (fun x hx st r h => rdEntry_fwd x (f9 x hx) (by have := p5 x hx; omega) (p5 x hx).2.2 st r h) a
  obtain ⟨s11, e9, a⟩ := pCount_fwd (m := 5) a (by omega) p6
  obtain ⟨s12, g9, a⟩ := many_fwd (rdConf s) cfBytes _ conf s11 (fun x hx st r h => rdConf_fwd x (by have := p7 x hx; omega) st r h) a
  obtain ⟨s13, e10, a⟩ := pCount_fwd (m := 262144) a (by omega) (by omega)
  obtain ⟨s14, e11, a⟩ := pCount_fwd (m := 262144) a (by omega) (by omega)
  have a' : At s s14 (text data ++ []) := by simpa using a
  obtain ⟨s15, e12, a⟩ := pText_fwd (m := 4096) a' (by omega) p10
  have hok : ((bitN ok : Int) == 1) = ok := by cases ok <;> rfl
  refine ⟨s15, ?_, ?_⟩
  · unfold msChain
    simp only [e0, e1, e2, e3, e4, e5, e6, e7, e8, g8, e9, g9, e10, e11, e12, hok]
  · unfold pEnd
    have h1 := a.1
    have h2 := congrArg List.length a.2.2
    rw [List.length_drop, List.length_nil] at h2
    rw [if_neg (by omega)]
    exact h1
theorem body_len (x : Ms) (hm : mayMs x = true) : x.body.length ≤ 65536 := by
  have hp := mayMs_parts hm
  obtain ⟨_, _, _, p4, p5, p6, p7, _, _, p10⟩ := hp
  have l1 := flat_len [x.kind.toNat, x.src.toNat, x.dest.toNat, x.term, x.index, x.logTerm, x.commit, bitN x.ok]
  have l2 := flat_len [x.offset.toNat, x.size.toNat]
  have l3 := text_len x.data
  have l4 := num_len x.entries.length
  have l5 := num_len x.conf.length
  have l6 := flat_le enBytes 2100 x.entries (fun e he => by
    have := p5 e he
    have := num_len e.term; have := num_len e.kind.toNat; have := text_len e.data
    unfold enBytes; rw [List.length_append, List.length_append]; omega)
  have l7 := flat_le cfBytes 10 x.conf (fun n hn => num_len _)
  unfold Ms.body listB
  simp only [List.length_append]
  simp only [List.length_cons, List.length_nil] at l1 l2
  omega
theorem frameOf_body (x : Ms) (hm : mayMs x = true) : frameOf x.body = (frame x.body, 0) := by
  have := body_len x hm
  unfold frameOf
  rw [if_neg (by omega)]
/-- what is read, written anew, is the bytes that were read -/
theorem rdMs_one (u : Bytes) (h : (rdMs u).2 = 0) : mayMs (rdMs u).1 = true ∧ frameOf (rdMs u).1.body = (u, 0) := by
  rcases hc : cutOf u with ⟨s, n, er⟩
  unfold rdMs at h ⊢
  rw [hc] at h ⊢
  simp only at h ⊢
  by_cases her : er ≠ 0
  · rw [if_pos her] at h; exact absurd h her
  rw [if_neg her] at h ⊢
  obtain rfl : er = 0 := by omega
  by_cases hn : n < u.length
  · rw [if_pos hn] at h; simp at h
  rw [if_neg hn] at h ⊢
  obtain ⟨h1, h2, h3⟩ := msOut_one s h
  rw [h1]
  simp only
  refine ⟨h2, ?_⟩
  rw [frameOf_body _ h2, h3]
  obtain ⟨g1, g2, g3, g4⟩ := cut_frame hc
  rw [List.take_of_length_le (by omega)] at g4
  rw [g4]
/-- what is written is read as it was; something behind it is not read -/
theorem rdMs_back (x : Ms) (hm : mayMs x = true) (hf : x.fit) (r : Bytes) : rdMs (frame x.body ++ r) = if r = [] then (x, 0) else (Ms.zero, 9) := by
  have hl := body_len x hm
  obtain ⟨st, h1, h2⟩ := msOut_back x hm hf
  unfold rdMs
  rw [frame_cut _ hl r]
  simp only
  rw [if_neg (by simp), List.length_append, frame_length]
  cases r with
  | nil =>
    rw [if_neg (by simp), if_pos rfl, h1]
    unfold msOut
    rw [if_pos ⟨h2, hm⟩]
  | cons c r => rw [if_pos (by simp), if_neg (by simp)]
end Go.Proofs.Ytgkapgfpalbkjaa
