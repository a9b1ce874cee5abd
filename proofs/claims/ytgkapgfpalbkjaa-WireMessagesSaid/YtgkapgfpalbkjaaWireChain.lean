/-
  PLAIN: a request and a message as they are read, whole; the law of what is written and read.
-/
import Derived.Test.YtgkapgfpalbkjaaWireLaw
namespace Go.Proofs.Ytgkapgfpalbkjaa
open Go.RowKit
set_option linter.unusedVariables false

/-- a request as it is read, and the reader's state then -/
def rqChain (s : Bytes) : Rq × (Nat × Nat) :=
  let a0 := pCount 10 s (0, 0)
  let a1 := pNum s a0.2
  let a2 := pNum s a1.2
  let a3 := pCount 5 s a2.2
  let a4 := pNum s a3.2
  let a5 := pNum s a4.2
  let a6 := pText 64 s a5.2
  let a7 := pText 64 s a6.2
  let a8 := pNum s a7.2
  let a9 := pCount 64 s a8.2
  let b9 := many (rdRange s) a9.1 a9.2
  let a10 := pCount 16 s b9.2
  let b10 := many (pText 32 s) a10.1 a10.2
  let a11 := pCount 2 s b10.2
  let a12 := pCount 1 s a11.2
  let a13 := pNum s a12.2
  let a14 := pText 32 s a13.2
  let a15 := pNum s a14.2
  let a16 := pNum s a15.2
  (⟨a0.1, a1.1, a2.1, a3.1, a4.1, a5.1, a6.1, a7.1, a8.1, b9.1, b10.1, a11.1, ((a12.1 : Int) == 1), a13.1, a14.1, a15.1, a16.1⟩, a16.2)
/-- what ReadRequest tells -/
def rdRq (s : Bytes) : Rq × Nat := rqOut s (rqChain s).1 (rqChain s).2
theorem rqChain_fit (s : Bytes) : (rqChain s).1.fit := by
  unfold Rq.fit rqChain
  simp only
  exact ⟨pNum_lt _ _, pNum_lt _ _, pNum_lt _ _, pNum_lt _ _, pNum_lt _ _, pNum_lt _ _, pNum_lt _ _, pNum_lt _ _, many_mem (rdRange s) _ (fun st => ⟨pNum_lt _ _, pNum_lt _ _⟩) _ _⟩
theorem rqChain_flags (s : Bytes) : ∀ f ∈ (rqChain s).1.flags, f.length ≤ 32 := by
  unfold rqChain
  simp only
  exact many_mem (pText 32 s) _ (fun st => pText_le _ _ _) _ _
theorem rdRq_fit (s : Bytes) : (rdRq s).1.fit := by
  unfold rdRq rqOut
  split
  · exact rqChain_fit s
  · unfold Rq.fit Rq.zero top64; simp
theorem readRq_any (s : Bytes) (hs : s.length ≤ 1152921504606846976) (w : World) :
    Calls Try.prog 12 #[.string (str s)] w fun e w' => ∃ vu vf, e = .returned (.tuple #[.agg ((rdRq s).1.cells vu vf), .int .i64 ((rdRq s).2 : Nat)]) ∧
      Cells [] w' vu (rdRq s).1.uids.length (rgVals (rdRq s).1.uids) ∧ Cells [] w' vf (rdRq s).1.flags.length (strVals (rdRq s).1.flags) ∧ Below w.heap.size w w' := by
  rcases h0 : pCount 10 s (0, 0) with ⟨n0, st1⟩
  rcases h1 : pNum s st1 with ⟨n1, st2⟩
  rcases h2 : pNum s st2 with ⟨n2, st3⟩
  rcases h3 : pCount 5 s st3 with ⟨n3, st4⟩
  rcases h4 : pNum s st4 with ⟨n4, st5⟩
  rcases h5 : pNum s st5 with ⟨n5, st6⟩
  rcases h6 : pText 64 s st6 with ⟨x6, st7⟩
  rcases h7 : pText 64 s st7 with ⟨x7, st8⟩
  rcases h8 : pNum s st8 with ⟨n8, st9⟩
  rcases h9 : pCount 64 s st9 with ⟨nu, st10⟩
  rcases h10 : many (rdRange s) nu st10 with ⟨lu, st11⟩
  rcases h11 : pCount 16 s st11 with ⟨nf, st12⟩
  rcases h12 : many (pText 32 s) nf st12 with ⟨lf, st13⟩
  rcases h13 : pCount 2 s st13 with ⟨n11, st14⟩
  rcases h14 : pCount 1 s st14 with ⟨n12, st15⟩
  rcases h15 : pNum s st15 with ⟨n13, st16⟩
  rcases h16 : pText 32 s st16 with ⟨x14, st17⟩
  rcases h17 : pNum s st17 with ⟨n15, st18⟩
  rcases h18 : pNum s st18 with ⟨n16, st19⟩
  have hcn : rqChain s = (⟨n0, n1, n2, n3, n4, n5, x6, x7, n8, lu, lf, n11, ((n12 : Int) == 1), n13, x14, n15, n16⟩, st19) := by
    unfold rqChain
    simp only [h0, h1, h2, h3, h4, h5, h6, h7, h8, h9, h10, h11, h12, h13, h14, h15, h16, h17, h18]
  have hfl := rqChain_flags s
  unfold rdRq
  rw [hcn] at hfl ⊢
  exact readRq_at s hs w (hid h0) (hid h1) (hid h2) (hid h3) (hid h4) (hid h5) (hid h6) (hid h7) (hid h8) (hid h9) (hid h10) (hid h11) (hid h12) (hid h13) (hid h14) (hid h15) (hid h16) (hid h17) (hid h18) _ rfl (hid (fun f hf => by have := hfl f hf; unfold maxLen; omega))
theorem bitN_one (n : Nat) (h : n ≤ 1) : bitN ((n : Int) == 1) = n := by
  rcases (by omega : n = 0 ∨ n = 1) with rfl | rfl <;> rfl
/-- what is read, written anew, is the bytes that were read -/
theorem rdRq_one (s : Bytes) (h : (rdRq s).2 = 0) : mayRq (rdRq s).1 = true ∧ (rdRq s).1.bytes = s := by
  have hc : rqChain s = rqChain s := rfl
  unfold rdRq rqOut at h ⊢
  by_cases hp : pEnd s (rqChain s).2 = 0 ∧ mayRq (rqChain s).1 = true
  · rw [if_pos hp]
    refine ⟨hp.2, ?_⟩
    obtain ⟨he, hl⟩ := pEnd_ok hp.1
    clear h hp
    unfold rqChain at *
    simp only at *
    generalize h0 : pCount 10 s (0, 0) = q0 at *
    generalize h1 : pNum s q0.2 = q1 at *
    generalize h2 : pNum s q1.2 = q2 at *
    generalize h3 : pCount 5 s q2.2 = q3 at *
    generalize h4 : pNum s q3.2 = q4 at *
    generalize h5 : pNum s q4.2 = q5 at *
    generalize h6 : pText 64 s q5.2 = q6 at *
    generalize h7 : pText 64 s q6.2 = q7 at *
    generalize h8 : pNum s q7.2 = q8 at *
    generalize h9 : pCount 64 s q8.2 = q9 at *
    have ml9 := many_len (rdRange s) q9.1 q9.2
    generalize g9 : many (rdRange s) q9.1 q9.2 = r9 at *
    generalize h10 : pCount 16 s r9.2 = q10 at *
    have ml10 := many_len (pText 32 s) q10.1 q10.2
    generalize g10 : many (pText 32 s) q10.1 q10.2 = r10 at *
    generalize h11 : pCount 2 s r10.2 = q11 at *
    generalize h12 : pCount 1 s q11.2 = q12 at *
    generalize h13 : pNum s q12.2 = q13 at *
    generalize h14 : pText 32 s q13.2 = q14 at *
    generalize h15 : pNum s q14.2 = q15 at *
    generalize h16 : pNum s q15.2 = q16 at *
    have hle12 : q12.1 ≤ 1 := by rw [← h12]; exact pCount_le _ _ _
    have p0 : q0.2.1 ≤ s.length := by rw [← h0]; exact pCount_place _ _ _ (Nat.zero_le _)
    have p1 : q1.2.1 ≤ s.length := by rw [← h1]; exact pNum_place _ _ p0
    have p2 : q2.2.1 ≤ s.length := by rw [← h2]; exact pNum_place _ _ p1
    have p3 : q3.2.1 ≤ s.length := by rw [← h3]; exact pCount_place _ _ _ p2
    have p4 : q4.2.1 ≤ s.length := by rw [← h4]; exact pNum_place _ _ p3
    have p5 : q5.2.1 ≤ s.length := by rw [← h5]; exact pNum_place _ _ p4
    have p6 : q6.2.1 ≤ s.length := by rw [← h6]; exact pText_place _ _ _ p5
    have p7 : q7.2.1 ≤ s.length := by rw [← h7]; exact pText_place _ _ _ p6
    have p8 : q8.2.1 ≤ s.length := by rw [← h8]; exact pNum_place _ _ p7
    have p9 : q9.2.1 ≤ s.length := by rw [← h9]; exact pCount_place _ _ _ p8
    have pr9 : r9.2.1 ≤ s.length := by rw [← g9]; exact many_place _ (rdRange_place s) _ _ p9
    have p10 : q10.2.1 ≤ s.length := by rw [← h10]; exact pCount_place _ _ _ pr9
    have pr10 : r10.2.1 ≤ s.length := by rw [← g10]; exact many_place _ (fun st h => pText_place _ _ _ h) _ _ p10
    have p11 : q11.2.1 ≤ s.length := by rw [← h11]; exact pCount_place _ _ _ pr10
    have p12 : q12.2.1 ≤ s.length := by rw [← h12]; exact pCount_place _ _ _ p11
    have p13 : q13.2.1 ≤ s.length := by rw [← h13]; exact pNum_place _ _ p12
    have p14 : q14.2.1 ≤ s.length := by rw [← h14]; exact pText_place _ _ _ p13
    have p15 : q15.2.1 ≤ s.length := by rw [← h15]; exact pNum_place _ _ p14
    have b16 := pNum_back h16 p15 he
    have b15 := pNum_back h15 p14 b16.1
    have b14 := pText_back h14 p13 b15.1
    have b13 := pNum_back h13 p12 b14.1
    have b12 := pCount_back h12 p11 b13.1
    have b11 := pCount_back h11 pr10 b12.1
    have b10' := many_back (pText 32 s) text (fun st h => pText_place _ _ _ h) (fun st x st' h ht he => pText_back h ht he) q10.1 q10.2 p10 (by rw [g10]; exact b11.1)
    rw [g10] at b10'
    have b10 := pCount_back h10 pr9 b10'.1
    have b9' := many_back (rdRange s) rgBytes (rdRange_place s) (rdRange_back s) q9.1 q9.2 p9 (by rw [g9]; exact b10.1)
    rw [g9] at b9'
    have b9 := pCount_back h9 p8 b9'.1
    have b8 := pNum_back h8 p7 b9.1
    have b7 := pText_back h7 p6 b8.1
    have b6 := pText_back h6 p5 b7.1
    have b5 := pNum_back h5 p4 b6.1
    have b4 := pNum_back h4 p3 b5.1
    have b3 := pCount_back h3 p2 b4.1
    have b2 := pNum_back h2 p1 b3.1
    have b1 := pNum_back h1 p0 b2.1
    have b0 := pCount_back h0 (Nat.zero_le _) b1.1
    have hall := ((((((((((((((((((b0.trans b1).trans b2).trans b3).trans b4).trans b5).trans b6).trans b7).trans b8).trans b9).trans b9').trans b10).trans b10').trans b11).trans b12).trans b13).trans b14).trans b15).trans b16)
    have h := hall.2.2
    rw [List.take_of_length_le hl] at h
    simp only [List.take_zero, List.nil_append] at h
    rw [h]
    unfold Rq.bytes listB
    rw [ml9, ml10]
    simp only [Int.toNat_natCast, bitN_one _ hle12, List.map_cons, List.map_nil, List.flatten_cons, List.flatten_nil, List.append_nil, List.append_assoc]
  · rw [if_neg hp] at h
    simp at h
/-- what is written is read as it was -/
theorem rdRq_back (x : Rq) (hm : mayRq x = true) (hf : x.fit) : rdRq x.bytes = (x, 0) := by
  have hp := mayRq_parts hm
  have hb : x.bytes = x.bytes := rfl
  generalize hs : x.bytes = s at hb ⊢
  clear hb
  have h := At.start s
  rw [← hs] at h
  rw [hs] at h
  have h' : At s (0, 0) x.bytes := by rw [hs]; exact h
  clear h
  obtain ⟨op, session, number, node, life, tried, box, dest, validity, uids, flags, how, has, since, hash, size, sweeps⟩ := x
  unfold Rq.fit at hf
  simp only at hp hf
  obtain ⟨n0, rfl⟩ := Int.eq_ofNat_of_zero_le hp.1.1
  obtain ⟨n3, rfl⟩ := Int.eq_ofNat_of_zero_le hp.2.1.1
  obtain ⟨n11, rfl⟩ := Int.eq_ofNat_of_zero_le hp.2.2.2.2.2.2.2.2.1.1
  obtain ⟨⟨_, p1⟩, ⟨_, p2⟩, p3, p4, p5, p6, p7, p8, ⟨_, p9⟩, p10⟩ := hp
  obtain ⟨f1, f2, f3, f4, f5, f6, f7, f8, f9⟩ := hf
  unfold Rq.bytes listB at h'
  simp only [Int.toNat_natCast, List.map_cons, List.map_nil, List.flatten_cons, List.flatten_nil, List.append_nil, List.append_assoc] at h'
  have hbit : bitN has ≤ 1 := by unfold bitN; split <;> omega
  have t64 : (1000000 : Nat) < top64 := by unfold top64; omega
  obtain ⟨s1, e0, a⟩ := pCount_fwd (m := 10) h' (by omega) (by omega)
  obtain ⟨s2, e1, a⟩ := pNum_fwd a f1
  obtain ⟨s3, e2, a⟩ := pNum_fwd a f2
  obtain ⟨s4, e3, a⟩ := pCount_fwd (m := 5) a (by omega) (by omega)
  obtain ⟨s5, e4, a⟩ := pNum_fwd a f3
  obtain ⟨s6, e5, a⟩ := pNum_fwd a f4
  obtain ⟨s7, e6, a⟩ := pText_fwd (m := 64) a (by omega) p3
  obtain ⟨s8, e7, a⟩ := pText_fwd (m := 64) a (by omega) p4
  obtain ⟨s9, e8, a⟩ := pNum_fwd a f5
  obtain ⟨s10, e9, a⟩ := pCount_fwd (m := 64) a (by omega) p5
  obtain ⟨s11, g9, a⟩ := many_fwd (rdRange s) rgBytes _ uids s10 (fun x hx st r h => rdRange_fwd x (f9 x hx).1 (f9 x hx).2 st r h) a
  obtain ⟨s12, e10, a⟩ := pCount_fwd (m := 16) a (by omega) p7
  obtain ⟨s13, g10, a⟩ := many_fwd (pText 32 s) text _ flags s12 (fun x hx st r h => pText_fwd h (by have := p8 x hx; omega) (p8 x hx)) a
  obtain ⟨s14, e11, a⟩ := pCount_fwd (m := 2) a (by omega) (by omega)
  obtain ⟨s15, e12, a⟩ := pCount_fwd (m := 1) a (by omega) hbit
  obtain ⟨s16, e13, a⟩ := pNum_fwd a f6
  obtain ⟨s17, e14, a⟩ := pText_fwd (m := 32) a (by omega) p10
  obtain ⟨s18, e15, a⟩ := pNum_fwd a f7
  have a' : At s s18 (num sweeps ++ []) := by simpa using a
  obtain ⟨s19, e16, a⟩ := pNum_fwd a' f8
  have hbb : ((bitN has : Nat) : Int) = 1 ↔ has = true := by cases has <;> simp [bitN]
  have hhas : ((bitN has : Int) == 1) = has := by cases has <;> rfl
  have hcn : rqChain s = (⟨n0, session, number, n3, life, tried, box, dest, validity, uids, flags, n11, has, since, hash, size, sweeps⟩, s19) := by
    unfold rqChain
    simp only [e0, e1, e2, e3, e4, e5, e6, e7, e8, e9, g9, e10, g10, e11, e12, e13, e14, e15, e16, hhas]
  unfold rdRq
  rw [hcn]
  unfold rqOut
  have hend : pEnd s s19 = 0 := by
    unfold pEnd
    have h1 := a.1
    have h2 := congrArg List.length a.2.2
    rw [List.length_drop, List.length_nil] at h2
    rw [if_neg (by omega)]
    exact h1
  rw [if_pos ⟨hend, hm⟩]
end Go.Proofs.Ytgkapgfpalbkjaa
