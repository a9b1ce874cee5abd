/-
  The reference's ReadMessage, whole; it tells what wire's tells.
-/
import Derived.Test.YtgkapgfpalbkjaaRefMs
import Derived.Test.YtgkapgfpalbkjaaRefLaw
namespace Go.Proofs.Ytgkapgfpalbkjaa
open Go.RowKit
set_option linter.unusedVariables false
/-- a message as the reference reads it, and the reader's state then -/
def msChainR (s : Bytes) : Ms × (Nat × Nat) :=
  let a0 := numI s (0, 0)
  let a1 := numI s a0.2
  let a2 := numI s a1.2
  let a3 := pNum s a2.2
  let a4 := pNum s a3.2
  let a5 := pNum s a4.2
  let a6 := pNum s a5.2
  let a7 := pNum s a6.2
  let a8 := pCount 8 s a7.2
  let a9 := many (rdEntryR s) a8.1 a8.2
  let a10 := pCount 5 s a9.2
  let a11 := many (numI s) a10.1 a10.2
  let a12 := numI s a11.2
  let a13 := numI s a12.2
  let a14 := pText 4096 s a13.2
  (⟨a0.1, a1.1, a2.1, a3.1, a4.1, a5.1, a6.1, ((a7.1 : Int) == 1), a9.1, a11.1, a12.1, a13.1, a14.1⟩, a14.2)
theorem msChainR_fit (s : Bytes) : (msChainR s).1.fit := by
  unfold Ms.fit msChainR
  simp only
  exact ⟨pNum_lt _ _, pNum_lt _ _, pNum_lt _ _, pNum_lt _ _, many_mem (rdEntryR s) _ (fun st => pNum_lt _ _) _ _⟩
theorem msChainR_entries (s : Bytes) : ∀ e ∈ (msChainR s).1.entries, e.data.length ≤ maxLen := by
  unfold msChainR maxLen
  simp only
  exact many_mem (rdEntryR s) (fun e => e.data.length ≤ 9223372036854775807) (fun st => Nat.le_trans (pText_le _ _ _) (by omega)) _ _
theorem msChainR_data (s : Bytes) : (msChainR s).1.data.length ≤ maxLen := by
  unfold msChainR maxLen
  simp only
  exact Nat.le_trans (pText_le _ _ _) (by omega)
theorem rdEntryR_fwd {s : Bytes} (x : En) (h1 : x.term < top64) (h2 : 0 ≤ x.kind ∧ x.kind ≤ 3) (h3 : x.data.length ≤ 2048) (st : Nat × Nat) (r : Bytes) (h : At s st (enBytes x ++ r)) : ∃ st', rdEntryR s st = (x, st') ∧ At s st' r := by
  obtain ⟨t, k, d⟩ := x
  simp only at h1 h2 h3
  obtain ⟨n, rfl⟩ := Int.eq_ofNat_of_zero_le h2.1
  unfold enBytes at h
  simp only [List.append_assoc, Int.toNat_natCast] at h
  obtain ⟨s1, a1, b1⟩ := pNum_fwd h h1
  obtain ⟨s2, a2, b2⟩ := numI_fwd b1 (by omega)
  obtain ⟨s3, a3, b3⟩ := pText_fwd (m := 2048) b2 (by unfold top64; omega) h3
  exact ⟨s3, by unfold rdEntryR; simp only [a1, a2, a3], b3⟩
theorem numC_fwd {s : Bytes} (x : Int) (h : 0 ≤ x ∧ x ≤ 5) (st : Nat × Nat) (r : Bytes) (ha : At s st (cfBytes x ++ r)) : ∃ st', numI s st = (x, st') ∧ At s st' r := by
  obtain ⟨n, rfl⟩ := Int.eq_ofNat_of_zero_le h.1
  unfold cfBytes at ha
  simp only [Int.toNat_natCast] at ha
  exact numI_fwd ha (by omega)
theorem msChainR_back (x : Ms) (hm : mayMs x = true) (hf : x.fit) : (msChainR x.body).1 = x := by
  have hp := mayMs_parts hm
  generalize hs : x.body = s
  have h' : At s (0, 0) x.body := by rw [hs]; exact At.start s
  clear hs
  obtain ⟨kind, src, dest, term, index, logTerm, commit, ok, entries, conf, offset, size, data⟩ := x
  unfold Ms.fit at hf
  simp only at hp hf
  obtain ⟨n0, rfl⟩ := Int.eq_ofNat_of_zero_le (a := kind) (by omega)
  obtain ⟨n1, rfl⟩ := Int.eq_ofNat_of_zero_le (a := src) (by omega)
  obtain ⟨n2, rfl⟩ := Int.eq_ofNat_of_zero_le (a := dest) (by omega)
  obtain ⟨n3, rfl⟩ := Int.eq_ofNat_of_zero_le (a := offset) (by omega)
  obtain ⟨n4, rfl⟩ := Int.eq_ofNat_of_zero_le (a := size) (by omega)
  obtain ⟨⟨_, p1⟩, ⟨_, p2⟩, ⟨_, p3⟩, p4, p5, p6, p7, ⟨_, p8⟩, ⟨_, p9⟩, p10⟩ := hp
  obtain ⟨f1, f2, f3, f4, f9⟩ := hf
  unfold Ms.body listB at h'
  simp only [Int.toNat_natCast, List.map_cons, List.map_nil, List.flatten_cons, List.flatten_nil, List.append_nil, List.append_assoc] at h'
  have hbit : bitN ok ≤ 1 := by unfold bitN; split <;> omega
  have t64 : (1000000 : Nat) < top64 := by unfold top64; omega
  obtain ⟨s1, e0, a⟩ := numI_fwd h' (by omega)
  obtain ⟨s2, e1, a⟩ := numI_fwd a (by omega)
  obtain ⟨s3, e2, a⟩ := numI_fwd a (by omega)
  obtain ⟨s4, e3, a⟩ := pNum_fwd a f1
  obtain ⟨s5, e4, a⟩ := pNum_fwd a f2
  obtain ⟨s6, e5, a⟩ := pNum_fwd a f3
  obtain ⟨s7, e6, a⟩ := pNum_fwd a f4
  obtain ⟨s8, e7, a⟩ := pNum_fwd a (by omega)
  obtain ⟨s9, e8, a⟩ := pCount_fwd (m := 8) a (by omega) p4
  obtain ⟨s10, g8, a⟩ := many_fwd (rdEntryR s) enBytes _ entries s9 (fun x hx st r h => rdEntryR_fwd x (f9 x hx) (by have := p5 x hx; omega) (p5 x hx).2.2 st r h) a
  obtain ⟨s11, e9, a⟩ := pCount_fwd (m := 5) a (by omega) p6
  obtain ⟨s12, g9, a⟩ := many_fwd (numI s) cfBytes _ conf s11 (fun x hx st r h => numC_fwd x (by have := p7 x hx; omega) st r h) a
  obtain ⟨s13, e10, a⟩ := numI_fwd a (by omega)
  obtain ⟨s14, e11, a⟩ := numI_fwd a (by omega)
  have a' : At s s14 (text data ++ []) := by simpa using a
  obtain ⟨s15, e12, a⟩ := pText_fwd (m := 4096) a' (by omega) p10
  have hok : ((bitN ok : Int) == 1) = ok := by cases ok <;> rfl
  unfold msChainR
  simp only [e0, e1, e2, e3, e4, e5, e6, e7, e8, g8, e9, g9, e10, e11, e12, hok]
theorem msRef_law (s : Bytes) : msRef s (msChainR s).1 = msOut s (msChain s).1 (msChain s).2 := by
  unfold msRef
  by_cases h : mayMs (msChainR s).1 = true ∧ (msChainR s).1.body = s
  · rw [if_pos h]
    obtain ⟨st, h1, h2⟩ := msOut_back _ h.1 (msChainR_fit s)
    rw [h.2] at h1 h2
    rw [h1]
    unfold msOut
    rw [if_pos ⟨h2, h.1⟩]
  · rw [if_neg h]
    by_cases h0 : (msOut s (msChain s).1 (msChain s).2).2 = 0
    · obtain ⟨_, g1, g2⟩ := msOut_one s h0
      have h2 := msChainR_back _ g1 (msChain_fit s)
      rw [g2] at h2
      rw [h2] at h
      exact absurd ⟨g1, g2⟩ h
    · by_cases hp : pEnd s (msChain s).2 = 0 ∧ mayMs (msChain s).1 = true
      · unfold msOut at h0
        rw [if_pos hp] at h0
        exact absurd rfl h0
      · unfold msOut
        rw [if_neg hp]
set_option maxHeartbeats 1000000 in
theorem refMs_any (u : Bytes) (hu : u.length ≤ 1152921504606846976) (w : World) :
    Calls Try.prog 18 #[.string (str u)] w fun e w' => ∃ vu vf, e = .returned (.tuple #[.agg ((rdMs u).1.cells vu vf), .int .i64 ((rdMs u).2 : Nat)]) ∧
      Cells [] w' vu (rdMs u).1.entries.length (enVals (rdMs u).1.entries) ∧ Cells [] w' vf (rdMs u).1.conf.length (intVals (rdMs u).1.conf) ∧ Below w.heap.size w w' := by
  have hm : u.length ≤ maxLen := by unfold maxLen; omega
  have hle := cut_body_le u
  rcases hc : cutOf u with ⟨s, n, er⟩
  rw [hc] at hle
  simp only at hle
  unfold rdMs
  rw [hc]
  simp only
  by_cases her : er ≠ 0
  · rw [if_pos her]
    exact (refReadMs_cut u s n er (hid hc) hm her w).mono fun _ _ ⟨e, hb⟩ => ⟨.slice none 0 0, .slice none 0 0, e, Cells.nil _ _, Cells.nil _ _, hb⟩
  rw [if_neg her]
  obtain rfl : er = 0 := by omega
  by_cases hn : n < u.length
  · rw [if_pos hn]
    exact (refReadMs_rest u s n (hid hc) hm hn w).mono fun _ _ ⟨e, hb⟩ => ⟨.slice none 0 0, .slice none 0 0, e, Cells.nil _ _, Cells.nil _ _, hb⟩
  rw [if_neg hn]
  obtain ⟨n0, st1, h0⟩ := pair_of (numI s (0, 0))
  obtain ⟨n1, st2, h1⟩ := pair_of (numI s st1)
  obtain ⟨n2, st3, h2⟩ := pair_of (numI s st2)
  obtain ⟨n3, st4, h3⟩ := pair_of (pNum s st3)
  obtain ⟨n4, st5, h4⟩ := pair_of (pNum s st4)
  obtain ⟨n5, st6, h5⟩ := pair_of (pNum s st5)
  obtain ⟨n6, st7, h6⟩ := pair_of (pNum s st6)
  obtain ⟨n7, st8, h7⟩ := pair_of (pNum s st7)
  obtain ⟨ne, st9, h8⟩ := pair_of (pCount 8 s st8)
  obtain ⟨le, st10, h9⟩ := pair_of (many (rdEntryR s) ne st9)
  obtain ⟨nc, st11, h10⟩ := pair_of (pCount 5 s st10)
  obtain ⟨lc, st12, h11⟩ := pair_of (many (numI s) nc st11)
  obtain ⟨n10, st13, h12⟩ := pair_of (numI s st12)
  obtain ⟨n11, st14, h13⟩ := pair_of (numI s st13)
  obtain ⟨x12, st15, h14⟩ := pair_of (pText 4096 s st14)
  have hcn : msChainR s = (⟨n0, n1, n2, n3, n4, n5, n6, ((n7 : Int) == 1), le, lc, n10, n11, x12⟩, st15) := by
    unfold msChainR
    simp only [h0, h1, h2, h3, h4, h5, h6, h7, h8, h9, h10, h11, h12, h13, h14]
  have hlaw := msRef_law s
  have hfi := msChainR_fit s
  have hfl := msChainR_entries s
  have hle2 := msChainR_data s
  rw [hcn] at hlaw hfi hfl hle2
  generalize msOut s (msChain s).1 (msChain s).2 = Q at hlaw ⊢
  have GF := hid hfi
  have GL := hid hfl
  have GX := hid hle2
  have GW := hid hlaw
  clear hfi hfl hle2 hlaw hcn
  generalize hx : (⟨n0, n1, n2, n3, n4, n5, n6, ((n7 : Int) == 1), le, lc, n10, n11, x12⟩ : Ms) = x at *
  have h := refMs_at u s n (hid hc) hm hn (by omega) w (hid h0) (hid h1) (hid h2) (hid h3) (hid h4) (hid h5) (hid h6) (hid h7) (hid h8) (hid h9) (hid h10) (hid h11) (hid h12) (hid h13) (hid h14) x (hid hx.symm) GF GL GX
  rw [GW.out] at h
  exact h
end Go.Proofs.Ytgkapgfpalbkjaa
