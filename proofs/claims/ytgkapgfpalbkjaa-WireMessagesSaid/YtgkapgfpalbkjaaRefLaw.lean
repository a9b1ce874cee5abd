/-
  The reference's ReadRequest, whole; it tells what wire's tells.
-/
import Derived.Test.YtgkapgfpalbkjaaRefRq
import Derived.Test.YtgkapgfpalbkjaaWireOneW
namespace Go.Proofs.Ytgkapgfpalbkjaa
open Go.RowKit
set_option linter.unusedVariables false
theorem pair_of {α β : Type} (p : α × β) : ∃ a b, p = (a, b) := ⟨p.1, p.2, rfl⟩
theorem numI_fwd {s : Bytes} {st : Nat × Nat} {n : Nat} {r : Bytes} (h : At s st (num n ++ r)) (hn : n ≤ 1099511627776) : ∃ st', numI s st = ((n : Int), st') ∧ At s st' r := by
  obtain ⟨st', h1, h2⟩ := pNum_fwd h (by unfold top64; omega)
  refine ⟨st', ?_, h2⟩
  unfold numI
  rw [h1]
  simp only
  rw [if_neg (by omega)]
/-- a request as the reference reads it, and the reader's state then -/
def rqChainR (s : Bytes) : Rq × (Nat × Nat) :=
  let a0 := numI s (0, 0)
  let a1 := pNum s a0.2
  let a2 := pNum s a1.2
  let a3 := numI s a2.2
  let a4 := pNum s a3.2
  let a5 := pNum s a4.2
  let a6 := pText 64 s a5.2
  let a7 := pText 64 s a6.2
  let a8 := pNum s a7.2
  let a9 := pCount 64 s a8.2
  let b9 := many (rdRange s) a9.1 a9.2
  let a10 := pCount 16 s b9.2
  let b10 := many (pText 32 s) a10.1 a10.2
  let a11 := numI s b10.2
  let a12 := pNum s a11.2
  let a13 := pNum s a12.2
  let a14 := pText 32 s a13.2
  let a15 := pNum s a14.2
  let a16 := pNum s a15.2
  (⟨a0.1, a1.1, a2.1, a3.1, a4.1, a5.1, a6.1, a7.1, a8.1, b9.1, b10.1, a11.1, ((a12.1 : Int) == 1), a13.1, a14.1, a15.1, a16.1⟩, a16.2)
theorem rqChainR_fit (s : Bytes) : (rqChainR s).1.fit := by
  unfold Rq.fit rqChainR
  simp only
  exact ⟨pNum_lt _ _, pNum_lt _ _, pNum_lt _ _, pNum_lt _ _, pNum_lt _ _, pNum_lt _ _, pNum_lt _ _, pNum_lt _ _, many_mem (rdRange s) _ (fun st => ⟨pNum_lt _ _, pNum_lt _ _⟩) _ _⟩
theorem rqChainR_flags (s : Bytes) : ∀ f ∈ (rqChainR s).1.flags, f.length ≤ maxLen := by
  unfold rqChainR maxLen
  simp only
  exact many_mem (pText 32 s) _ (fun st => Nat.le_trans (pText_le _ _ _) (by omega)) _ _
theorem rqChainR_lens (s : Bytes) : (rqChainR s).1.box.length ≤ maxLen ∧ (rqChainR s).1.dest.length ≤ maxLen ∧ (rqChainR s).1.hash.length ≤ maxLen := by
  unfold rqChainR maxLen
  simp only
  exact ⟨Nat.le_trans (pText_le _ _ _) (by omega), Nat.le_trans (pText_le _ _ _) (by omega), Nat.le_trans (pText_le _ _ _) (by omega)⟩
theorem rqChainR_back (x : Rq) (hm : mayRq x = true) (hf : x.fit) : (rqChainR x.bytes).1 = x := by
  have hp := mayRq_parts hm
  have hb : x.bytes = x.bytes := rfl
  generalize hs : x.bytes = s at hb ⊢
  clear hb
  have h := At.start s
  rw [← hs] at h
  rw [hs] at h
  have h' : At s (0, 0) x.bytes := by rw [hs]; exact h
  clear h
  obtain ⟨op, session, number, node, life, tried, box, dest, validity, uids, flags, how, has, since, hash, size, sweeps⟩ := x
  unfold Rq.fit at hf
  simp only at hp hf
  obtain ⟨n0, rfl⟩ := Int.eq_ofNat_of_zero_le hp.1.1
  obtain ⟨n3, rfl⟩ := Int.eq_ofNat_of_zero_le hp.2.1.1
  obtain ⟨n11, rfl⟩ := Int.eq_ofNat_of_zero_le hp.2.2.2.2.2.2.2.2.1.1
  obtain ⟨⟨_, p1⟩, ⟨_, p2⟩, p3, p4, p5, p6, p7, p8, ⟨_, p9⟩, p10⟩ := hp
  obtain ⟨f1, f2, f3, f4, f5, f6, f7, f8, f9⟩ := hf
  unfold Rq.bytes listB at h'
  simp only [Int.toNat_natCast, List.map_cons, List.map_nil, List.flatten_cons, List.flatten_nil, List.append_nil, List.append_assoc] at h'
  have hbit : bitN has ≤ 1 := by unfold bitN; split <;> omega
  have t64 : (1000000 : Nat) < top64 := by unfold top64; omega
  obtain ⟨s1, e0, a⟩ := numI_fwd h' (by omega)
  obtain ⟨s2, e1, a⟩ := pNum_fwd a f1
  obtain ⟨s3, e2, a⟩ := pNum_fwd a f2
  obtain ⟨s4, e3, a⟩ := numI_fwd a (by omega)
  obtain ⟨s5, e4, a⟩ := pNum_fwd a f3
  obtain ⟨s6, e5, a⟩ := pNum_fwd a f4
  obtain ⟨s7, e6, a⟩ := pText_fwd (m := 64) a (by omega) p3
  obtain ⟨s8, e7, a⟩ := pText_fwd (m := 64) a (by omega) p4
  obtain ⟨s9, e8, a⟩ := pNum_fwd a f5
  obtain ⟨s10, e9, a⟩ := pCount_fwd (m := 64) a (by omega) p5
  obtain ⟨s11, g9, a⟩ := many_fwd (rdRange s) rgBytes _ uids s10 (fun x hx st r h => rdRange_fwd x (f9 x hx).1 (f9 x hx).2 st r h) a
  obtain ⟨s12, e10, a⟩ := pCount_fwd (m := 16) a (by omega) p7
  obtain ⟨s13, g10, a⟩ := many_fwd (pText 32 s) text _ flags s12 (fun x hx st r h => pText_fwd h (by have := p8 x hx; omega) (p8 x hx)) a
  obtain ⟨s14, e11, a⟩ := numI_fwd a (by omega)
  obtain ⟨s15, e12, a⟩ := pNum_fwd a (by omega)
  obtain ⟨s16, e13, a⟩ := pNum_fwd a f6
  obtain ⟨s17, e14, a⟩ := pText_fwd (m := 32) a (by omega) p10
  obtain ⟨s18, e15, a⟩ := pNum_fwd a f7
  have a' : At s s18 (num sweeps ++ []) := by simpa using a
  obtain ⟨s19, e16, a⟩ := pNum_fwd a' f8
  have hbb : ((bitN has : Nat) : Int) = 1 ↔ has = true := by cases has <;> simp [bitN]
  have hhas : ((bitN has : Int) == 1) = has := by cases has <;> rfl
  have hcn : rqChainR s = (⟨n0, session, number, n3, life, tried, box, dest, validity, uids, flags, n11, has, since, hash, size, sweeps⟩, s19) := by
    unfold rqChainR
    simp only [e0, e1, e2, e3, e4, e5, e6, e7, e8, e9, g9, e10, g10, e11, e12, e13, e14, e15, e16, hhas]
  rw [hcn]
theorem rqRef_law (s : Bytes) : rqRef s (rqChainR s).1 = ((rdRq s).1, decide ((rdRq s).2 = 0)) := by
  unfold rqRef
  by_cases h : mayRq (rqChainR s).1 = true ∧ (rqChainR s).1.bytes = s
  · rw [if_pos h]
    have h1 := rdRq_back _ h.1 (rqChainR_fit s)
    rw [h.2] at h1
    rw [h1]
    simp
  · rw [if_neg h]
    by_cases h0 : (rdRq s).2 = 0
    · obtain ⟨g1, g2⟩ := rdRq_one s h0
      have h2 := rqChainR_back _ g1 (rdRq_fit s)
      rw [g2] at h2
      rw [h2] at h
      exact absurd ⟨g1, g2⟩ h
    · rw [rqOut_zero s h0, decide_eq_false h0]
set_option maxHeartbeats 1000000 in
theorem refRq_any (s : Bytes) (hs : s.length ≤ 1152921504606846976) (w : World) :
    Calls Try.prog 13 #[.string (str s)] w fun e w' => ∃ vu vf, e = .returned (.tuple #[.agg ((rdRq s).1.cells vu vf), .bool (decide ((rdRq s).2 = 0))]) ∧
      Cells [] w' vu (rdRq s).1.uids.length (rgVals (rdRq s).1.uids) ∧ Cells [] w' vf (rdRq s).1.flags.length (strVals (rdRq s).1.flags) ∧ Below w.heap.size w w' := by
  obtain ⟨n0, st1, h0⟩ := pair_of (numI s (0, 0))
  obtain ⟨n1, st2, h1⟩ := pair_of (pNum s st1)
  obtain ⟨n2, st3, h2⟩ := pair_of (pNum s st2)
  obtain ⟨n3, st4, h3⟩ := pair_of (numI s st3)
  obtain ⟨n4, st5, h4⟩ := pair_of (pNum s st4)
  obtain ⟨n5, st6, h5⟩ := pair_of (pNum s st5)
  obtain ⟨x6, st7, h6⟩ := pair_of (pText 64 s st6)
  obtain ⟨x7, st8, h7⟩ := pair_of (pText 64 s st7)
  obtain ⟨n8, st9, h8⟩ := pair_of (pNum s st8)
  obtain ⟨nu, st10, h9⟩ := pair_of (pCount 64 s st9)
  obtain ⟨lu, st11, h10⟩ := pair_of (many (rdRange s) nu st10)
  obtain ⟨nf, st12, h11⟩ := pair_of (pCount 16 s st11)
  obtain ⟨lf, st13, h12⟩ := pair_of (many (pText 32 s) nf st12)
  obtain ⟨n11, st14, h13⟩ := pair_of (numI s st13)
  obtain ⟨n12, st15, h14⟩ := pair_of (pNum s st14)
  obtain ⟨n13, st16, h15⟩ := pair_of (pNum s st15)
  obtain ⟨x14, st17, h16⟩ := pair_of (pText 32 s st16)
  obtain ⟨n15, st18, h17⟩ := pair_of (pNum s st17)
  obtain ⟨n16, st19, h18⟩ := pair_of (pNum s st18)
  have hcn : rqChainR s = (⟨n0, n1, n2, n3, n4, n5, x6, x7, n8, lu, lf, n11, ((n12 : Int) == 1), n13, x14, n15, n16⟩, st19) := by
    unfold rqChainR
    simp only [h0, h1, h2, h3, h4, h5, h6, h7, h8, h9, h10, h11, h12, h13, h14, h15, h16, h17, h18]
  have hlaw := rqRef_law s
  have hfi := rqChainR_fit s
  have hfl := rqChainR_flags s
  have hle := rqChainR_lens s
  rw [hcn] at hlaw hfi hfl hle
  generalize rdRq s = Q at hlaw ⊢
  have GF := hid hfi
  have GL := hid hfl
  have GX := hid hle
  have GW := hid hlaw
  clear hfi hfl hle hlaw hcn
  generalize hx : (⟨n0, n1, n2, n3, n4, n5, x6, x7, n8, lu, lf, n11, ((n12 : Int) == 1), n13, x14, n15, n16⟩ : Rq) = x at *
  have h := refRq_at s hs w (hid h0) (hid h1) (hid h2) (hid h3) (hid h4) (hid h5) (hid h6) (hid h7) (hid h8) (hid h9) (hid h10) (hid h11) (hid h12) (hid h13) (hid h14) (hid h15) (hid h16) (hid h17) (hid h18) x (hid hx.symm) GF GL GX
  rw [GW.out] at h
  exact h
end Go.Proofs.Ytgkapgfpalbkjaa
