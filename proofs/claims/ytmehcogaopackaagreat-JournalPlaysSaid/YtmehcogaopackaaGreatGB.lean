/-
  PLAIN: requests: what may be, their bytes; lists that are read one after another; a slice's cells. (Several texts in one.)
-/
import Derived.Lib.EndianBits
import Derived.Test.YtmehcogaopackaaGreatGA
/- The walks of pack.Open and of the reader's End; the reader in memory. -/
namespace Go.Proofs.YtmehcogaopackaaGreat
open Go.RowKit

/-- the reader in block b: its bytes, its place, its fault -/
def RD (w : World) (b : Nat) (s : Bytes) (t e : Nat) : Prop := w.heap[b]? = some (.cells #[.string (str s), .int .i64 (t : Int), .int .i64 (e : Int)] 177)
theorem RD.s {w b s t e} (h : RD w b s t e) : w.cell? ⟨b, 0, none⟩ = some (.string (str s)) := by unfold RD at h; simp [World.cell?, h]
theorem RD.t {w b s t e} (h : RD w b s t e) : w.cell? ⟨b, 1, none⟩ = some (.int .i64 (t : Int)) := by unfold RD at h; simp [World.cell?, h]
theorem RD.e {w b s t e} (h : RD w b s t e) : w.cell? ⟨b, 2, none⟩ = some (.int .i64 (e : Int)) := by unfold RD at h; simp [World.cell?, h]
theorem RD.lt {w b s t e} (h : RD w b s t e) : b < w.heap.size := World.block_lt_of_cell? _ _ h.s
theorem RD.free {w b s t e} (h : RD w b s t e) (o : Nat) : w.frozen? ⟨b, o, none⟩ = false := by unfold RD at h; simp [World.frozen?, h]
theorem RD.setT {w b s t e} (h : RD w b s t e) (t' : Nat) : RD (w.setCell ⟨b, 1, none⟩ (.int .i64 (t' : Int))) b s t' e := by
  unfold RD at *
  simp [World.setCell, Array.getElem?_modify, h]
theorem RD.setE {w b s t e} (h : RD w b s t e) (e' : Nat) : RD (w.setCell ⟨b, 2, none⟩ (.int .i64 (e' : Int))) b s t e' := by
  unfold RD at *
  simp [World.setCell, Array.getElem?_modify, h]
theorem RD.drewN {w b s t e} (h : RD w b s t e) (N : Nat) : RD (w.drewN N) b s t e := h
theorem RD.below {w w' b s t e} (h : RD w b s t e) (hb : Below w.heap.size w w') : RD w' b s t e := (hb.block b h.lt).trans h

/-- what a call on the reader in block b may turn: that block alone -/
abbrev Only (b : Nat) (w w' : World) : Prop := w.grownBy w' (some b)
theorem Only.of_below {b : Nat} {w w' : World} (h : Below w.heap.size w w') : Only b w w' := ⟨h.os, h.tape, h.output, h.size, fun k hk _ => h.block k hk⟩
theorem Only.refl (b : Nat) (w : World) : Only b w w := .of_below (Below.refl _ _)
theorem Only.trans {b : Nat} {w w1 w2 : World} (h : Only b w w1) (k : Only b w1 w2) : Only b w w2 :=
  ⟨k.os.trans h.os, k.tape.trans h.tape, k.output.trans h.output, Nat.le_trans h.size k.size, fun j hj hb => (k.block j (Nat.lt_of_lt_of_le hj h.size) hb).trans (h.block j hj hb)⟩
theorem Only.below {b : Nat} {w w' : World} (h : Only b w w') (hlt : b < w.heap.size) : Below b w w' :=
  ⟨h.os, h.tape, h.output, h.size, fun k hk => h.block k (Nat.lt_trans hk hlt) (fun e => by cases e; exact Nat.lt_irrefl _ hk)⟩
theorem Only.set {b : Nat} {w w' : World} (h : Only b w w') (o : Nat) (v : Value) : Only b w (w'.setCell ⟨b, o, none⟩ v) :=
  h.trans ⟨rfl, rfl, rfl, by simp [World.setCell], fun k _ hk => Below.heap_setCell _ _ _ _ (fun e => hk (by rw [e]))⟩
theorem Only.drewN {b : Nat} {w w' : World} (h : Only b w w') (n : Nat) : Only b w (w'.drewN n) := h.trans (.of_below (below_drewN (Below.refl _ _) n))
theorem Only.cell {b : Nat} {w w' : World} (h : Only b w w') {p : Addr} {v : Value} (hne : p.block ≠ b) (hc : w.cell? p = some v) : w'.cell? p = some v := by
  have := h.block p.block (World.block_lt_of_cell? _ _ hc) (fun e => hne (by cases e; rfl))
  rw [← hc]
  unfold World.cell?
  rw [this]

set_option maxHeartbeats 1000000 in
theorem open_any (s : Bytes) (w : World) :
    Calls Tryz.prog 86 #[.string (str s)] w fun e w' => e = .returned (.pointer (some ⟨w.heap.size, 0, none⟩)) ∧ RD w' w.heap.size s 0 0 ∧ Below w.heap.size w w' := by
  go_enter Tryz.func86, Tryz.ntmps86
  go_wp2_with fail
  go_ret
  exact ⟨rfl, by unfold RD; exact Array.getElem?_push_size, (Below.refl _ _).alloc (Nat.le_refl _) _⟩
set_option maxHeartbeats 1000000 in
theorem end_only (s : Bytes) (t e : Nat) (b : Nat) (w : World) (h : RD w b s t e) :
    Calls Tryz.prog 88 #[.pointer (some ⟨b, 0, none⟩)] w fun x w' => x = .returned (.int .i64 ((if e = 0 ∧ t < s.length then 9 else e : Nat) : Int)) ∧ RD w' b s t (if e = 0 ∧ t < s.length then 9 else e) ∧ Only b w w' := by
  have h0 := h.s
  have h1 := h.t
  have h2 := h.e
  have hz : (str s).size = s.length := str_size _
  have hh := hid h
  have hf := h.free 2
  clear h
  by_cases he : e = 0
  · subst he
    by_cases hl : t < s.length
    · rw [if_pos ⟨rfl, hl⟩]
      go_enter Tryz.func88, Tryz.ntmps88
      go_wp2_with fail
      go_quiet (fail)
      go_wp2_with fail
      go_ret
      exact ⟨rfl, (hh.out.drewN _).setE 9, ((Only.refl b w).drewN _).set 2 _⟩
    · rw [if_neg (fun c => hl c.2)]
      go_enter Tryz.func88, Tryz.ntmps88
      go_wp2_with fail
      go_quiet (fail)
      go_wp2_with fail
      go_ret
      exact ⟨rfl, hh.out.drewN _, (Only.refl b w).drewN _⟩
  · have he2 : ((e : Int) == 0) = false := by simpa using he
    rw [if_neg (fun c => he c.1)]
    go_enter Tryz.func88, Tryz.ntmps88
    go_wp2_with fail
    go_quiet (fail)
    go_wp2_with fail
    go_ret
    exact ⟨rfl, hh.out.drewN _, (Only.refl b w).drewN _⟩
theorem end_any (s : Bytes) (t e : Nat) (b : Nat) (w : World) (h : RD w b s t e) :
    Calls Tryz.prog 88 #[.pointer (some ⟨b, 0, none⟩)] w fun x w' => x = .returned (.int .i64 ((if e = 0 ∧ t < s.length then 9 else e : Nat) : Int)) ∧ RD w' b s t (if e = 0 ∧ t < s.length then 9 else e) ∧ Below b w w' :=
  (end_only s t e b w h).mono fun _ _ ⟨x, y, z⟩ => ⟨x, y, z.below h.lt⟩
end Go.Proofs.YtmehcogaopackaaGreat
/- The walk of the reader's scan. -/
namespace Go.Proofs.YtmehcogaopackaaGreat
open Go.RowKit

theorem and127 : ∀ c : Fin 256, bits .and .u8 (c.val : Int) 127 = ((c.val % 128 : Nat) : Int) := by decide +kernel
theorem or_group (N k c : Nat) (hk : k ≤ 9) (h9 : k = 9 → c ≤ 1) (hN : N < 128 ^ k) (hc : c < 256) :
    bits .or .u64 (N : Int) (IntKind.u64.wrap (IntKind.u64.wrap (bits .and .u8 (c : Int) 127) * 2 ^ (7 * k))) = ((N + c % 128 * 128 ^ k : Nat) : Int) := by
  have ha : bits .and .u8 (c : Int) 127 = ((c % 128 : Nat) : Int) := and127 ⟨c, hc⟩
  have e7 : 128 ^ k = 2 ^ (7 * k) := by rw [Nat.pow_mul]
  have hp : (2 : Nat) ^ (7 * k) ≤ 2 ^ 63 := Nat.pow_le_pow_right (by omega) (by omega)
  have hx : c % 128 * 2 ^ (7 * k) < 2 ^ 64 := by
    by_cases h : k = 9
    · subst h
      have := h9 rfl
      have h2 : (2 : Nat) ^ (7 * 9) = 9223372036854775808 := by decide
      rw [h2]
      omega
    · have h2 : (2 : Nat) ^ (7 * k) ≤ 2 ^ 56 := Nat.pow_le_pow_right (by omega) (by omega)
      have h3 : c % 128 * 2 ^ (7 * k) ≤ 127 * 2 ^ 56 := Nat.mul_le_mul (by omega) h2
      omega
  rw [ha, IntKind.wrap_u64, IntKind.wrap_u64, e7]
  have e1 : ((c % 128 : Nat) : Int) % 18446744073709551616 = ((c % 128 : Nat) : Int) := by omega
  rw [e1]
  have e2 : ((c % 128 : Nat) : Int) * 2 ^ (7 * k) = ((c % 128 * 2 ^ (7 * k) : Nat) : Int) := by rw [Int.natCast_mul, Int.natCast_pow]; rfl
  rw [e2]
  have e3 : ((c % 128 * 2 ^ (7 * k) : Nat) : Int) % 18446744073709551616 = ((c % 128 * 2 ^ (7 * k) : Nat) : Int) := by omega
  rw [e3]
  rw [e7] at hN
  have hN2 : (N : Int) < 2 ^ (7 * k) := by exact_mod_cast hN
  have := bits_join_low .u64 64 (by decide) (fun n h0 h1 => by rw [IntKind.wrap_u64]; omega) (7 * k) (N : Int) ((c % 128 * 2 ^ (7 * k) : Nat) : Int) (by omega) hN2 (by omega) (by omega) (by rw [← e2]; exact Int.mul_emod_left _ _) (by omega)
  rw [this]
  rfl

set_option maxRecDepth 100000 in
set_option maxHeartbeats 1000000 in
theorem scan_any (s : Bytes) (t e : Nat) (b : Nat) (w : World) (h : RD w b s t e) (ht : t ≤ s.length) (hs : s.length ≤ 1152921504606846976) :
    Calls Tryz.prog 128 #[.pointer (some ⟨b, 0, none⟩)] w fun x w' => x = .returned (.tuple #[.int .u64 ((scan0 (s.drop t)).1 : Int), .int .i64 ((scan0 (s.drop t)).2.1 : Int), .int .i64 ((scan0 (s.drop t)).2.2 : Int)]) ∧ Below w.heap.size w w' := by
  have h0 := h.s
  have h1 := h.t
  have h2 := h.e
  have hz : (str s).size = s.length := str_size _
  clear h
  go_enter Tryz.func128, Tryz.ntmps128
  go_wp2_with fail
  go_loopw [5, 6] (fun vn vi wr => ∃ k N Nd : Nat, vn = .int .u64 N ∧ vi = .int .i64 k ∧ k ≤ 9 ∧ t + k ≤ s.length ∧ N < 128 ^ k ∧ Hid (scan0 (s.drop t) = scanL k N (s.drop (t + k))) ∧ wr = w.drewN Nd) (fun _ i _ => 10 - (intOf i).toNat)
  case atStart => exact ⟨0, 0, 0, rfl, rfl, by omega, by omega, by simp, rfl, rfl⟩
  case round =>
    obtain ⟨k, N, Nd, rfl, rfl, hk, htk, hN, HS, rfl⟩ := hrel
    by_cases hlt : t + k < s.length
    · have hw : IntKind.i64.wrap ((t : Int) + (k : Int)) = ((t + k : Nat) : Int) := by rw [IntKind.wrap_i64]; omega
      have hi0 : 0 ≤ (t : Int) + (k : Int) := by omega
      have hi1 : (t : Int) + (k : Int) < (s.length : Int) := by omega
      go_wp2_with fail
      go_quiet (fail)
      go_wp2_with fail
      go_quiet (fail)
      obtain ⟨c, hc, hcs⟩ : ∃ c : UInt8, (str s)[t + k]'(by omega) = c ∧ s.drop (t + k) = c :: s.drop (t + k + 1) := ⟨s[t + k], rfl, List.drop_eq_getElem_cons hlt⟩
      rw [hc]
      have HD := hid hcs
      have hcl := c.toNat_lt
      clear hc hcs hw
      by_cases h9 : k = 9
      · subst h9
        by_cases hc1 : 1 < c.toNat
        · have HR := hid (show scanL 9 N (s.drop (t + 9)) = (0, 0, 4) by rw [HD.out]; simp [scanL, hc1])
          go_wp2_with fail
          go_ret3
          rw [HS.out, HR.out]
          exact ⟨rfl, below_drewN (Below.refl _ _) _⟩
        · by_cases hz1 : c.toNat = 0
          · have HR := hid (show scanL 9 N (s.drop (t + 9)) = (0, 0, 4) by rw [HD.out]; simp [scanL, hz1])
            rw [hz1]
            go_wp2_with fail
            go_ret3
            rw [HS.out, HR.out]
            exact ⟨rfl, below_drewN (Below.refl _ _) _⟩
          · obtain hz1 : c.toNat = 1 := by omega
            obtain ⟨M, hM⟩ : ∃ M, M = N + 1 * 128 ^ 9 := ⟨_, rfl⟩
            have HR := hid (show scanL 9 N (s.drop (t + 9)) = (M, 10, 0) by rw [HD.out, hM]; simp [scanL, hz1])
            have hg : bits BinOp.or IntKind.u64 (N : Int) (IntKind.u64.wrap (IntKind.u64.wrap (bits BinOp.and IntKind.u8 1 127) * 9223372036854775808)) = (M : Int) := by
              rw [hM]
              exact or_group N 9 1 (by omega) (fun _ => Nat.le_refl _) hN (by omega)
            rw [hz1]
            clear hN hM
            go_wp2_with fail
            go_ret3
            rw [HS.out, HR.out]
            exact ⟨rfl, below_drewN (Below.refl _ _) _⟩
      · have hg := or_group N k c.toNat hk (fun e => absurd e h9) hN c.toNat_lt
        by_cases hc1 : c.toNat < 128
        · have hmod : c.toNat % 128 = c.toNat := Nat.mod_eq_of_lt hc1
          rw [hmod] at hg
          by_cases hz1 : c.toNat = 0
          · by_cases hk0 : 0 < k
            · have HR := hid (show scanL k N (s.drop (t + k)) = (0, 0, 4) by rw [HD.out]; simp [scanL, hz1, hk0, h9])
              rw [hz1] at hg hc1 ⊢
              clear hN
              go_wp2_with fail
              go_ret3
              rw [HS.out, HR.out]
              exact ⟨rfl, below_drewN (Below.refl _ _) _⟩
            · obtain ⟨M, hM⟩ : ∃ M, M = N + 0 * 128 ^ k := ⟨_, rfl⟩
              have HR := hid (show scanL k N (s.drop (t + k)) = (M, k + 1, 0) by rw [HD.out, hM]; simp [scanL, hz1, hk0])
              rw [hz1] at hg hc1 ⊢
              rw [← hM] at hg
              have hg2 : bits BinOp.or IntKind.u64 (N : Int) (IntKind.u64.wrap (IntKind.u64.wrap (bits BinOp.and IntKind.u8 0 127) * 2 ^ (7 * k))) = (M : Int) := hg
              clear hN hM hg
              go_wp2_with fail
              go_ret3
              rw [HS.out, HR.out]
              exact ⟨rfl, below_drewN (Below.refl _ _) _⟩
          · obtain ⟨M, hM⟩ : ∃ M, M = N + c.toNat * 128 ^ k := ⟨_, rfl⟩
            have HR := hid (show scanL k N (s.drop (t + k)) = (M, k + 1, 0) by rw [HD.out, hM]; simp [scanL, hz1, h9, hc1])
            rw [← hM] at hg
            clear hN hM
            go_wp2_with fail
            go_ret3
            rw [HS.out, HR.out]
            exact ⟨rfl, below_drewN (Below.refl _ _) _⟩
        · obtain ⟨M, hM⟩ : ∃ M, M = N + c.toNat % 128 * 128 ^ k := ⟨_, rfl⟩
          have HR := hid (show scanL k N (s.drop (t + k)) = scanL (k + 1) M (s.drop (t + k + 1)) by rw [HD.out, hM]; simp [scanL, h9, hc1])
          rw [← hM] at hg
          have HM : Hid (M < 128 ^ (k + 1)) := by
            show M < _
            rw [hM, Nat.pow_succ]
            have h3 : c.toNat % 128 * 128 ^ k ≤ 127 * 128 ^ k := Nat.mul_le_mul_right _ (by omega)
            omega
          clear hN hM
          go_wp2_with fail
          go_roundw
          case rel => exact ⟨k + 1, M, _, rfl, by go_num, by omega, by omega, HM.out, (show scan0 (s.drop t) = _ by rw [HS.out, HR.out]; rfl), rfl⟩
          case measure => simp [intOf]; omega
    · have HR := hid (show scanL k N (s.drop (t + k)) = (0, 0, 3) by rw [List.drop_of_length_le (by omega)]; rfl)
      go_wp2_with fail
      go_quiet (fail)
      go_wp2_with fail
      go_ret3
      rw [HS.out, HR.out]
      exact ⟨rfl, below_drewN (below_drewN (Below.refl _ _) _) _⟩
end Go.Proofs.YtmehcogaopackaaGreat
/- The walk of the reference's At: the number at a place. -/
namespace Go.Proofs.YtmehcogaopackaaGreat
open Go.RowKit
set_option linter.unusedVariables false
/-- what At tells: the number, where it ends, the error -/
def atOf (s : Bytes) (t : Nat) : Nat × Nat × Nat := match scan0 (s.drop t) with | (n, z, er) => if er ≠ 0 then (0, 0, er) else (n, t + z, 0)
theorem atOf_err {s : Bytes} {t er : Nat} {a b : Nat} (h : scan0 (s.drop t) = (a, b, er)) (he : er ≠ 0) : atOf s t = (0, 0, er) := by unfold atOf; rw [h]; simp only; rw [if_pos he]
theorem atOf_ok {s : Bytes} {t n z : Nat} (h : scan0 (s.drop t) = (n, z, 0)) : atOf s t = (n, t + z, 0) := by unfold atOf; rw [h]; simp
/-- what one byte adds -/
theorem group_lt (N k c : Nat) (hk : k ≤ 9) (hN : N < 128 ^ k) (hc : c < 128) (h9 : k = 9 → c ≤ 1) : N + c * 128 ^ k < 18446744073709551616 := by
  rcases Nat.lt_or_ge k 9 with h | h
  · have e : (128 : Nat) ^ k * 128 ≤ 128 ^ 9 := by rw [← Nat.pow_succ]; exact Nat.pow_le_pow_right (by omega) (by omega)
    have e9 : (128 : Nat) ^ 9 = 9223372036854775808 := by decide
    have : c * 128 ^ k ≤ 127 * 128 ^ k := Nat.mul_le_mul_right _ (by omega)
    omega
  · obtain rfl : k = 9 := by omega
    have e9 : (128 : Nat) ^ 9 = 9223372036854775808 := by decide
    have := h9 rfl
    rw [e9] at *
    have : c * 9223372036854775808 ≤ 1 * 9223372036854775808 := Nat.mul_le_mul_right _ this
    omega
theorem group_next (N k c : Nat) (hN : N < 128 ^ k) : N + c % 128 * 128 ^ k < 128 ^ (k + 1) := by
  have : c % 128 * 128 ^ k ≤ 127 * 128 ^ k := Nat.mul_le_mul_right _ (by omega)
  rw [Nat.pow_succ]
  omega
set_option maxRecDepth 100000 in
set_option maxHeartbeats 4000000 in
theorem at_any (s : Bytes) (t : Nat) (ht : t ≤ s.length) (hs : s.length ≤ 1152921504606846976) (w : World) :
    Calls Tryz.prog 131 #[.string (str s), .int .i64 (t : Int)] w fun e w' => e = .returned (.tuple #[.int .u64 ((atOf s t).1 : Nat), .int .i64 ((atOf s t).2.1 : Nat), .int .i64 ((atOf s t).2.2 : Nat)]) ∧ w = w' := by
  have hz : (str s).size = s.length := str_size _
  go_enter Tryz.func131, Tryz.ntmps131
  go_wp2_with fail
  go_loop [1, 7, 8, 9] (fun at_ n un i => ∃ (k N : Nat), k ≤ 9 ∧ N < 128 ^ k ∧ t + k ≤ s.length ∧ at_ = .int .i64 ((t + k : Nat) : Int) ∧ n = .int .u64 (N : Int) ∧ un = .int .u64 ((128 ^ k : Nat) : Int) ∧ i = .int .i64 (k : Int) ∧ Hid (scan0 (s.drop t) = scanL k N (s.drop (t + k)))) (fun _ _ _ i => 10 - (intOf i).toNat)
  case atStart => exact ⟨0, 0, by omega, by omega, by omega, rfl, rfl, rfl, rfl, rfl⟩
  case round =>
    obtain ⟨k, N, hk, hN, htk, rfl, rfl, rfl, rfl, HS⟩ := hrel
    generalize hT : t + k = T at *
    have HT := hid hT
    clear hT
    have h8 : k < 9 → 128 ^ k ≤ 72057594037927936 := fun h => by
      have e : (128 : Nat) ^ 8 = 72057594037927936 := by decide
      rw [← e]; exact Nat.pow_le_pow_right (by omega) (by omega)
    have h99 : 128 ^ k ≤ 9223372036854775808 := by
      have e : (128 : Nat) ^ 9 = 9223372036854775808 := by decide
      rw [← e]; exact Nat.pow_le_pow_right (by omega) hk
    have HN := hid hN
    have hNb : N < 9223372036854775808 := by omega
    by_cases hlt : T < s.length
    · obtain ⟨c, hc, hcs⟩ : ∃ c : UInt8, (str s)[T]'(by omega) = c ∧ s.drop T = c :: s.drop (T + 1) := ⟨s[T], rfl, List.drop_eq_getElem_cons hlt⟩
      have HD := hid hcs
      have hcl := c.toNat_lt
      have hi0 : (0 : Int) ≤ (T : Int) := by omega
      have hi1 : (T : Int) < (s.length : Int) := by omega
      have HG := hid (fun h1 h2 => group_lt N k c.toNat hk hN h1 h2)
      have HGn := hid (group_next N k c.toNat hN)
      have HGm := hid (fun h1 => group_lt N k (c.toNat % 128) hk hN (by omega) h1)
      clear hcs hN
      by_cases h9 : k = 9
      · subst h9
        have HE9 : Hid ((128 : Nat) ^ 9 = 9223372036854775808) := by show _ = _; decide
        by_cases hc1 : 1 < c.toNat
        · have HR := hid (show scanL 9 N (s.drop T) = (0, 0, 4) by rw [HD.out]; simp [scanL, hc1])
          have HX := hid (atOf_err (HS.out.trans HR.out) (by simp))
          go_wp2_with fail
          go_ret3
          rw [HX.out]
          exact ⟨rfl, rfl⟩
        · by_cases hz1 : c.toNat = 0
          · have HR := hid (show scanL 9 N (s.drop T) = (0, 0, 4) by rw [HD.out]; simp [scanL, hz1])
            have HX := hid (atOf_err (HS.out.trans HR.out) (by simp))
            have hz2 : ((c.toNat : Int) == 0) = true := by simp; omega
            clear h8 h99
            go_wp2_with fail
            go_ret3
            rw [HX.out]
            exact ⟨rfl, rfl⟩
          · have hc1' : c.toNat = 1 := by omega
            have HR := hid (show scanL 9 N (s.drop T) = (N + 9223372036854775808, 10, 0) by rw [HD.out]; simp [scanL, hc1'])
            have HX := hid (atOf_ok (HS.out.trans HR.out))
            have hz2 : ((c.toNat : Int) == 0) = false := by simp; omega
            have e10 : t + 10 = T + 1 := by rw [← HT.out]
            clear h8 h99
            rw [show ((128 ^ 9 : Nat) : Int) = 9223372036854775808 from by decide]
            go_wp2_with fail
            go_ret3
            rw [HX.out]
            simp only
            rw [e10]
            exact ⟨rfl, by trivial⟩
      · have h8' := h8 (by omega)
        clear h8 h99
        by_cases hc1 : 128 ≤ c.toNat
        · have HR := hid (show scanL k N (s.drop T) = scanL (k + 1) (N + c.toNat % 128 * 128 ^ k) (s.drop (T + 1)) by
            rw [HD.out]; simp only [scanL]; rw [if_neg (by omega), if_neg (by omega)])
          have hsum := HGm.out (by omega)
          have HP := hid (show (128 : Nat) ^ k * 128 = 128 ^ (k + 1) from (Nat.pow_succ 128 k).symm)
          have hmul : ((c.toNat : Int) - 128) * ((128 ^ k : Nat) : Int) = ((c.toNat % 128 * 128 ^ k : Nat) : Int) := by
            have e : (c.toNat : Int) - 128 = ((c.toNat % 128 : Nat) : Int) := by omega
            rw [e, Int.natCast_mul]
          generalize c.toNat % 128 * 128 ^ k = Y at *
          generalize 128 ^ k = U at *
          go_wp2_with fail
          go_round
          case rel => exact ⟨k + 1, N + Y, by omega, by first | exact HGn.out | (rw [← HP.out]; exact HGn.out), by have := HT.out; omega, by have := HT.out; go_num, by go_num, by rw [← HP.out]; go_num, by go_num, by have := HT.out; rw [show t + (k + 1) = T + 1 by omega]; exact HS.out.trans HR.out⟩
          case measure => simp [intOf]; omega
        · by_cases hz1 : c.toNat = 0 ∧ 0 < k
          · have HR := hid (show scanL k N (s.drop T) = (0, 0, 4) by rw [HD.out]; simp only [scanL]; rw [if_neg (by omega), if_pos (by omega), if_pos hz1])
            have HX := hid (atOf_err (HS.out.trans HR.out) (by simp))
            have hz2 : ((c.toNat : Int) == 0) = true := by simp; omega
            obtain ⟨hz3, hz4⟩ := hz1
            go_wp2_with fail
            go_ret3
            rw [HX.out]
            exact ⟨rfl, rfl⟩
          · have HR := hid (show scanL k N (s.drop T) = (N + c.toNat * 128 ^ k, k + 1, 0) by rw [HD.out]; simp only [scanL]; rw [if_neg (by omega), if_pos (by omega), if_neg hz1])
            have HX := hid (atOf_ok (HS.out.trans HR.out))
            have hsum := HG.out (by omega) (by omega)
            have hmul : (c.toNat : Int) * ((128 ^ k : Nat) : Int) = ((c.toNat * 128 ^ k : Nat) : Int) := by rw [Int.natCast_mul]
            have HTT := hid (show t + (k + 1) = T + 1 by have := HT.out; omega)
            have HY := hid (fun (h : c.toNat = 0) => show c.toNat * 128 ^ k = 0 by rw [h, Nat.zero_mul])
            generalize c.toNat * 128 ^ k = Y at *
            generalize 128 ^ k = U at *
            by_cases hk0 : k = 0
            · subst hk0
              by_cases hc0 : c.toNat = 0
              · obtain rfl : Y = 0 := HY.out hc0
                have hz2 : ((c.toNat : Int) == 0) = true := by simp; omega
                go_wp2_with fail
                go_ret3
                rw [HX.out, HTT.out]
                exact ⟨rfl, rfl⟩
              · have hz2 : ((c.toNat : Int) == 0) = false := by simp; omega
                go_wp2_with fail
                go_ret3
                rw [HX.out, HTT.out]
                exact ⟨rfl, rfl⟩
            · have hz2 : ((c.toNat : Int) == 0) = false := by simp; omega
              go_wp2_with fail
              go_ret3
              rw [HX.out, HTT.out]
              exact ⟨rfl, rfl⟩
    · have HR := hid (show scanL k N (s.drop T) = (0, 0, 3) by rw [List.drop_eq_nil_of_le (by omega)]; rfl)
      have HX := hid (atOf_err (HS.out.trans HR.out) (by simp))
      clear h8 h99 hN
      go_wp2_with fail
      go_ret3
      rw [HX.out]
      exact ⟨rfl, rfl⟩
end Go.Proofs.YtmehcogaopackaaGreat
/- The walks of the reader's any, room, bound. -/
namespace Go.Proofs.YtmehcogaopackaaGreat
open Go.RowKit

theorem rany_any (p : Value) (n z : Int) (w : World) :
    Calls Tryz.prog 116 #[p, .int .u64 n, .int .i64 z] w fun x w' => x = .returned (.int .i64 0) ∧ w = w' := by
  go_enter Tryz.func116, Tryz.ntmps116
  go_wp2_with fail
  go_ret
  exact ⟨rfl, rfl⟩

set_option maxHeartbeats 1000000 in
theorem room_any (s : Bytes) (t e n z : Nat) (b : Nat) (w : World) (h : RD w b s t e) (ht : t + z ≤ s.length) (hs : s.length ≤ 1152921504606846976) :
    Calls Tryz.prog 127 #[.pointer (some ⟨b, 0, none⟩), .int .u64 (n : Int), .int .i64 (z : Int)] w fun x w' => x = .returned (.int .i64 ((if s.length - t - z < n then 3 else 0 : Nat) : Int)) ∧ Below w.heap.size w w' := by
  have h0 := h.s
  have h1 := h.t
  have hz : (str s).size = s.length := str_size _
  clear h
  by_cases hn : s.length - t - z < n
  · rw [if_pos hn]
    go_enter Tryz.func127, Tryz.ntmps127
    go_wp2_with fail
    go_quiet (fail)
    go_wp2_with fail
    go_ret
    exact ⟨rfl, below_drewN (Below.refl _ _) _⟩
  · rw [if_neg hn]
    go_enter Tryz.func127, Tryz.ntmps127
    go_wp2_with fail
    go_quiet (fail)
    go_wp2_with fail
    go_ret
    exact ⟨rfl, below_drewN (Below.refl _ _) _⟩

/-- A read of a number that is at most m: the number, how many bytes it has, the reader's place and its fault then. -/
def bnd (room : Bool) (s : Bytes) (t e m : Nat) : Nat × Nat × Nat × Nat :=
  if e ≠ 0 then (0, 0, t, e) else
  match scan0 (s.drop t) with
  | (n, z, er) => if er ≠ 0 then (0, 0, t, er) else if m < n then (0, 0, t, 2) else if room && decide (s.length - t - z < n) then (0, 0, t, 3) else (n, z, t + z, 0)

set_option maxHeartbeats 2000000 in
theorem bound_any (s : Bytes) (t e : Nat) (m : Nat) (b : Nat) (w : World) (h : RD w b s t e) (ht : t ≤ s.length) (hs : s.length ≤ 1152921504606846976) (p : Nat × Nat × Nat × Nat) (hp : p = bnd false s t e m) :
    Calls Tryz.prog 115 #[.pointer (some ⟨b, 0, none⟩), .int .u64 (m : Int), .func (.func 116) #[.pointer (some ⟨b, 0, none⟩)] #[]] w fun x w' => x = .returned (.tuple #[.int .u64 (p.1 : Int), .int .i64 (p.2.1 : Int)]) ∧ RD w' b s p.2.2.1 p.2.2.2 ∧ Only b w w' := by
  have h0 := h.s
  have h1 := h.t
  have h2 := h.e
  have hh := hid h
  clear h
  have HPP := hid hp
  clear hp

  by_cases he : e = 0
  · subst he
    have HSC := fun W (h : RD W b s t 0) => scan_any s t 0 b W h ht hs
    have HS1 := scan0_one (s.drop t)
    have HP : Hid (bnd false s t 0 m = match scan0 (s.drop t) with | (n, z, er) => if er ≠ 0 then (0, 0, t, er) else if m < n then (0, 0, t, 2) else if false && decide (s.length - t - z < n) then (0, 0, t, 3) else (n, z, t + z, 0)) := by
      show bnd _ _ _ _ _ = _
      unfold bnd
      rw [if_neg (by simp)]
    generalize scan0 (s.drop t) = q at *
    obtain ⟨n, z, er⟩ := q
    simp only at HSC HS1
    go_enter Tryz.func115, Tryz.ntmps115
    go_wp2_with fail
    refine (HSC _ hh.out).mono ?_
    rintro x w1 ⟨rfl, hb1⟩
    have hr1 := hh.out.below hb1
    have hh1 := hid hr1
    have g0 := hr1.s
    have g1 := hr1.t
    have g2 := hr1.e
    have f1 := hr1.free 1
    have f2 := hr1.free 2
    have hb1' := Only.of_below (b := b) hb1
    clear hr1 h0 h1 h2
    by_cases her : er = 0
    · subst her
      obtain ⟨hn, hz, hzl, _⟩ := HS1 n z rfl
      rw [List.length_drop] at hzl
      unfold top64 at hn
      clear HS1 HSC
      by_cases hmn : m < n
      · have HX : Hid (p = (0, 0, t, 2)) := by show p = _; rw [HPP.out, HP.out]; simp [hmn]
        obtain rfl := HX.out
        go_wp2_with fail
        go_ret2
        exact ⟨rfl, hh1.out.setE 2, hb1'.set 2 _⟩
      · have HX : Hid (p = (n, z, t + z, 0)) := by show p = _; rw [HPP.out, HP.out]; simp [hmn]
        obtain rfl := HX.out
        go_wp2_with fail
        refine (rany_any _ _ _ _).mono ?_
        rintro x w2 ⟨rfl, rfl⟩
        go_wp2_with fail
        go_ret2
        exact ⟨rfl, hh1.out.setT (t + z), hb1'.set 1 _⟩
    · have he2 : ((er : Int) == 0) = false := by simpa using her
      have he3 : ((er : Int) != 0) = true := by simpa using her
      have HX : Hid (p = (0, 0, t, er)) := by show p = _; rw [HPP.out, HP.out]; simp [her]
      obtain rfl := HX.out
      go_wp2_with fail
      go_ret2
      exact ⟨rfl, hh1.out.setE er, hb1'.set 2 _⟩
  · have he2 : ((e : Int) == 0) = false := by simpa using he
    have he3 : ((e : Int) != 0) = true := by simpa using he
    obtain rfl : p = (0, 0, t, e) := by rw [HPP.out]; unfold bnd; rw [if_pos he]
    go_enter Tryz.func115, Tryz.ntmps115
    go_wp2_with fail
    go_ret2
    exact ⟨rfl, hh.out, Only.refl _ _⟩

set_option maxHeartbeats 2000000 in
theorem bound_room (s : Bytes) (t e : Nat) (m : Nat) (b : Nat) (w : World) (h : RD w b s t e) (ht : t ≤ s.length) (hs : s.length ≤ 1152921504606846976) (p : Nat × Nat × Nat × Nat) (hp : p = bnd true s t e m) :
    Calls Tryz.prog 115 #[.pointer (some ⟨b, 0, none⟩), .int .u64 (m : Int), .func (.func 127) #[.pointer (some ⟨b, 0, none⟩)] #[]] w fun x w' => x = .returned (.tuple #[.int .u64 (p.1 : Int), .int .i64 (p.2.1 : Int)]) ∧ RD w' b s p.2.2.1 p.2.2.2 ∧ Only b w w' := by
  have h0 := h.s
  have h1 := h.t
  have h2 := h.e
  have hh := hid h
  clear h
  have HPP := hid hp
  clear hp

  by_cases he : e = 0
  · subst he
    have HSC := fun W (h : RD W b s t 0) => scan_any s t 0 b W h ht hs
    have HS1 := scan0_one (s.drop t)
    have HP : Hid (bnd true s t 0 m = match scan0 (s.drop t) with | (n, z, er) => if er ≠ 0 then (0, 0, t, er) else if m < n then (0, 0, t, 2) else if true && decide (s.length - t - z < n) then (0, 0, t, 3) else (n, z, t + z, 0)) := by
      show bnd _ _ _ _ _ = _
      unfold bnd
      rw [if_neg (by simp)]
    generalize scan0 (s.drop t) = q at *
    obtain ⟨n, z, er⟩ := q
    simp only at HSC HS1
    go_enter Tryz.func115, Tryz.ntmps115
    go_wp2_with fail
    refine (HSC _ hh.out).mono ?_
    rintro x w1 ⟨rfl, hb1⟩
    have hr1 := hh.out.below hb1
    have hh1 := hid hr1
    have g0 := hr1.s
    have g1 := hr1.t
    have g2 := hr1.e
    have f1 := hr1.free 1
    have f2 := hr1.free 2
    have hb1' := Only.of_below (b := b) hb1
    clear hr1 h0 h1 h2
    by_cases her : er = 0
    · subst her
      obtain ⟨hn, hz, hzl, _⟩ := HS1 n z rfl
      rw [List.length_drop] at hzl
      unfold top64 at hn
      clear HS1 HSC
      by_cases hmn : m < n
      · have HX : Hid (p = (0, 0, t, 2)) := by show p = _; rw [HPP.out, HP.out]; simp [hmn]
        obtain rfl := HX.out
        go_wp2_with fail
        go_ret2
        exact ⟨rfl, hh1.out.setE 2, hb1'.set 2 _⟩
      · by_cases hrm : s.length - t - z < n
        · have HX : Hid (p = (0, 0, t, 3)) := by show p = _; rw [HPP.out, HP.out]; simp [hmn, hrm]
          obtain rfl := HX.out
          have HR := fun W (h : RD W b s t 0) => room_any s t 0 n z b W h (by omega) hs
          rw [if_pos hrm] at HR
          go_wp2_with fail
          refine (HR _ hh1.out).mono ?_
          rintro x w2 ⟨rfl, hb2⟩
          have hr2 := hh1.out.below hb2
          have hh2 := hid hr2
          have k0 := hr2.e
          have k2 := hr2.free 2
          have hb2' := hb1'.trans (Only.of_below hb2)
          clear hr2 g0 g1 g2 f1 f2
          go_wp2_with fail
          go_ret2
          exact ⟨rfl, hh2.out.setE 3, hb2'.set 2 _⟩
        · have HX : Hid (p = (n, z, t + z, 0)) := by show p = _; rw [HPP.out, HP.out]; simp [hmn, hrm]
          obtain rfl := HX.out
          have HR := fun W (h : RD W b s t 0) => room_any s t 0 n z b W h (by omega) hs
          rw [if_neg hrm] at HR
          go_wp2_with fail
          refine (HR _ hh1.out).mono ?_
          rintro x w2 ⟨rfl, hb2⟩
          have hr2 := hh1.out.below hb2
          have hh2 := hid hr2
          have k0 := hr2.t
          have k2 := hr2.free 1
          have hb2' := hb1'.trans (Only.of_below hb2)
          clear hr2 g0 g1 g2 f1 f2
          go_wp2_with fail
          go_ret2
          exact ⟨rfl, hh2.out.setT (t + z), hb2'.set 1 _⟩
    · have he2 : ((er : Int) == 0) = false := by simpa using her
      have he3 : ((er : Int) != 0) = true := by simpa using her
      have HX : Hid (p = (0, 0, t, er)) := by show p = _; rw [HPP.out, HP.out]; simp [her]
      obtain rfl := HX.out
      go_wp2_with fail
      go_ret2
      exact ⟨rfl, hh1.out.setE er, hb1'.set 2 _⟩
  · have he2 : ((e : Int) == 0) = false := by simpa using he
    have he3 : ((e : Int) != 0) = true := by simpa using he
    obtain rfl : p = (0, 0, t, e) := by rw [HPP.out]; unfold bnd; rw [if_pos he]
    go_enter Tryz.func115, Tryz.ntmps115
    go_wp2_with fail
    go_ret2
    exact ⟨rfl, hh.out, Only.refl _ _⟩

end Go.Proofs.YtmehcogaopackaaGreat
/- The walks of the reader's Num, Count, Text. -/
namespace Go.Proofs.YtmehcogaopackaaGreat
open Go.RowKit

theorem bnd_place (room : Bool) (s : Bytes) (t e m : Nat) (ht : t ≤ s.length) : (bnd room s t e m).2.2.1 ≤ s.length := by
  have h1 := scan0_one (s.drop t)
  unfold bnd
  by_cases he : e ≠ 0
  · rw [if_pos he]; exact ht
  · rw [if_neg he]
    generalize scan0 (s.drop t) = q at *
    obtain ⟨n, z, er⟩ := q
    simp only
    by_cases her : er ≠ 0
    · rw [if_pos her]; exact ht
    · rw [if_neg her]
      obtain rfl : er = 0 := by omega
      obtain ⟨_, _, h3, _⟩ := h1 n z rfl
      rw [List.length_drop] at h3
      split
      · exact ht
      · split
        · exact ht
        · simp only; omega
theorem bnd_room (s : Bytes) (t e m : Nat) : (bnd true s t e m).2.2.1 + (bnd true s t e m).1 ≤ s.length ∨ (bnd true s t e m).2.1 = 0 := by
  have h1 := scan0_one (s.drop t)
  unfold bnd
  by_cases he : e ≠ 0
  · rw [if_pos he]; exact .inr rfl
  · rw [if_neg he]
    generalize scan0 (s.drop t) = q at *
    obtain ⟨n, z, er⟩ := q
    simp only
    by_cases her : er ≠ 0
    · rw [if_pos her]; exact .inr rfl
    · rw [if_neg her]
      obtain rfl : er = 0 := by omega
      obtain ⟨_, h2, h3, _⟩ := h1 n z rfl
      rw [List.length_drop] at h3
      split
      · exact .inr rfl
      · split
        · exact .inr rfl
        · rename_i c1 c2
          simp only [Bool.true_and, decide_eq_true_eq] at c2
          refine .inl ?_
          simp only
          omega
theorem bnd_most (room : Bool) (s : Bytes) (t e m : Nat) : (bnd room s t e m).1 ≤ m := by
  unfold bnd
  by_cases he : e ≠ 0
  · rw [if_pos he]; exact Nat.zero_le _
  · rw [if_neg he]
    generalize scan0 (s.drop t) = q at *
    obtain ⟨n, z, er⟩ := q
    simp only
    split
    · exact Nat.zero_le _
    · split
      · exact Nat.zero_le _
      · split
        · exact Nat.zero_le _
        · rename_i c _
          simp only
          omega

set_option maxRecDepth 100000 in
set_option maxHeartbeats 1000000 in
theorem rnum_only (s : Bytes) (t e : Nat) (b : Nat) (w : World) (h : RD w b s t e) (ht : t ≤ s.length) (hs : s.length ≤ 1152921504606846976) (p : Nat × Nat × Nat × Nat) (hp : p = bnd false s t e 18446744073709551615) :
    Calls Tryz.prog 113 #[.pointer (some ⟨b, 0, none⟩)] w fun x w' => x = .returned (.int .u64 (p.1 : Int)) ∧ RD w' b s p.2.2.1 p.2.2.2 ∧ Only b w w' := by
  have hh := hid h
  have H := fun W h => bound_any s t e 18446744073709551615 b W h ht hs p hp
  clear h hp
  go_enter Tryz.func113, Tryz.ntmps113
  go_wp2_with fail
  refine (H _ hh.out).mono ?_
  rintro x w1 ⟨rfl, hr1, hb1⟩
  go_wp2_with fail
  go_ret
  exact ⟨rfl, hr1, hb1⟩
theorem rnum_any (s : Bytes) (t e : Nat) (b : Nat) (w : World) (h : RD w b s t e) (ht : t ≤ s.length) (hs : s.length ≤ 1152921504606846976) (p : Nat × Nat × Nat × Nat) (hp : p = bnd false s t e 18446744073709551615) :
    Calls Tryz.prog 113 #[.pointer (some ⟨b, 0, none⟩)] w fun x w' => x = .returned (.int .u64 (p.1 : Int)) ∧ RD w' b s p.2.2.1 p.2.2.2 ∧ Below b w w' :=
  (rnum_only s t e b w h ht hs p hp).mono fun _ _ ⟨x, y, z⟩ => ⟨x, y, z.below h.lt⟩

set_option maxHeartbeats 1000000 in
theorem count_only (s : Bytes) (t e m : Nat) (b : Nat) (w : World) (h : RD w b s t e) (ht : t ≤ s.length) (hs : s.length ≤ 1152921504606846976) (hm : m ≤ maxLen) (p : Nat × Nat × Nat × Nat) (hp : p = bnd false s t e m) :
    Calls Tryz.prog 87 #[.pointer (some ⟨b, 0, none⟩), .int .i64 (m : Int)] w fun x w' => x = .returned (.int .i64 (p.1 : Int)) ∧ RD w' b s p.2.2.1 p.2.2.2 ∧ Only b w w' := by
  have hh := hid h
  have H := fun W h => bound_any s t e m b W h ht hs p hp
  have hpm : p.1 ≤ m := by rw [hp]; exact bnd_most _ _ _ _ _
  unfold maxLen at hm
  clear h hp
  go_enter Tryz.func87, Tryz.ntmps87
  go_wp2_with fail
  refine (H _ hh.out).mono ?_
  rintro x w1 ⟨rfl, hr1, hb1⟩
  go_wp2_with fail
  go_ret
  exact ⟨rfl, hr1, hb1⟩
theorem count_any (s : Bytes) (t e m : Nat) (b : Nat) (w : World) (h : RD w b s t e) (ht : t ≤ s.length) (hs : s.length ≤ 1152921504606846976) (hm : m ≤ maxLen) (p : Nat × Nat × Nat × Nat) (hp : p = bnd false s t e m) :
    Calls Tryz.prog 87 #[.pointer (some ⟨b, 0, none⟩), .int .i64 (m : Int)] w fun x w' => x = .returned (.int .i64 (p.1 : Int)) ∧ RD w' b s p.2.2.1 p.2.2.2 ∧ Below b w w' :=
  (count_only s t e m b w h ht hs hm p hp).mono fun _ _ ⟨x, y, z⟩ => ⟨x, y, z.below h.lt⟩

/-- a read of a text that is at most m long: it, the place and the fault then -/
def rtext (s : Bytes) (p : Nat × Nat × Nat × Nat) : Bytes × Nat × Nat :=
  if p.2.1 = 0 then ([], p.2.2.1, p.2.2.2) else ((s.drop p.2.2.1).take p.1, p.2.2.1 + p.1, p.2.2.2)

set_option maxHeartbeats 1000000 in
theorem rtext_only (s : Bytes) (t e m : Nat) (b : Nat) (w : World) (h : RD w b s t e) (ht : t ≤ s.length) (hs : s.length ≤ 1152921504606846976) (hm : m ≤ maxLen) (p : Nat × Nat × Nat × Nat) (hp : p = bnd true s t e m) :
    Calls Tryz.prog 114 #[.pointer (some ⟨b, 0, none⟩), .int .i64 (m : Int)] w fun x w' => x = .returned (.string (str (rtext s p).1)) ∧ RD w' b s (rtext s p).2.1 (rtext s p).2.2 ∧ Only b w w' := by
  have hh := hid h
  have H := fun W h => bound_room s t e m b W h ht hs p hp
  have hpm : p.1 ≤ m := by rw [hp]; exact bnd_most _ _ _ _ _
  have hpr : p.2.2.1 + p.1 ≤ s.length ∨ p.2.1 = 0 := by rw [hp]; exact bnd_room _ _ _ _
  have hz : (str s).size = s.length := str_size _
  obtain ⟨n, z, t2, e2⟩ := p
  simp only at hpm hpr
  unfold maxLen at hm
  clear h hp
  by_cases hz0 : z = 0
  · subst hz0
    go_enter Tryz.func114, Tryz.ntmps114
    go_wp2_with fail
    refine (H _ hh.out).mono ?_
    rintro x w1 ⟨rfl, hr1, hb1⟩
    go_wp2_with fail
    go_ret
    exact ⟨rfl, hr1, hb1⟩
  · have hpr2 : t2 + n ≤ s.length := by omega
    have HT : Hid (rtext s (n, z, t2, e2) = ((s.drop t2).take n, t2 + n, e2)) := by show rtext _ _ = _; unfold rtext; rw [if_neg hz0]
    rw [HT.out]
    have hzz : ((z : Int) == 0) = false := by simpa using hz0
    go_enter Tryz.func114, Tryz.ntmps114
    go_wp2_with fail
    refine (H _ hh.out).mono ?_
    rintro x w1 ⟨rfl, hr1, hb1⟩
    have hh1 := hid hr1
    have g0 := hr1.s
    have g1 := hr1.t
    have f1 := hr1.free 1
    clear hr1
    go_wp2_with fail
    go_quiet (fail)
    go_wp2_with fail
    have hx : (str s).extract t2 (t2 + n) = str ((s.drop t2).take n) := by rw [extract_str, str_data, Nat.add_sub_cancel_left]
    rw [hx]
    go_ret
    exact ⟨rfl, (hh1.out.drewN _).setT (t2 + n), (hb1.drewN _).set 1 _⟩
theorem rtext_any (s : Bytes) (t e m : Nat) (b : Nat) (w : World) (h : RD w b s t e) (ht : t ≤ s.length) (hs : s.length ≤ 1152921504606846976) (hm : m ≤ maxLen) (p : Nat × Nat × Nat × Nat) (hp : p = bnd true s t e m) :
    Calls Tryz.prog 114 #[.pointer (some ⟨b, 0, none⟩), .int .i64 (m : Int)] w fun x w' => x = .returned (.string (str (rtext s p).1)) ∧ RD w' b s (rtext s p).2.1 (rtext s p).2.2 ∧ Below b w w' :=
  (rtext_only s t e m b w h ht hs hm p hp).mono fun _ _ ⟨x, y, z⟩ => ⟨x, y, z.below h.lt⟩
end Go.Proofs.YtmehcogaopackaaGreat
/- The reader as a state (its place, its fault): the contracts of Num, Count, Text, End, packed for a chain of reads. -/
namespace Go.Proofs.YtmehcogaopackaaGreat
open Go.RowKit

/-- the reader in block b reads s; st: its place, its fault -/
def RS (w : World) (b : Nat) (s : Bytes) (st : Nat × Nat) : Prop := RD w b s st.1 st.2 ∧ st.1 ≤ s.length
theorem RS.below {w w' b s st} (h : RS w b s st) (hb : Below w.heap.size w w') : RS w' b s st := ⟨h.1.below hb, h.2⟩
theorem RS.lt {w b s st} (h : RS w b s st) : b < w.heap.size := h.1.lt
def pNum (s : Bytes) (st : Nat × Nat) : Nat × (Nat × Nat) := let p := bnd false s st.1 st.2 18446744073709551615; (p.1, (p.2.2.1, p.2.2.2))
def pCount (m : Nat) (s : Bytes) (st : Nat × Nat) : Nat × (Nat × Nat) := let p := bnd false s st.1 st.2 m; (p.1, (p.2.2.1, p.2.2.2))
def pText (m : Nat) (s : Bytes) (st : Nat × Nat) : Bytes × (Nat × Nat) := rtext s (bnd true s st.1 st.2 m)
theorem pNum_lt (s : Bytes) (st : Nat × Nat) : (pNum s st).1 < top64 := by
  have := bnd_most false s st.1 st.2 18446744073709551615
  unfold top64 pNum
  simp only
  omega
theorem pCount_le (m : Nat) (s : Bytes) (st : Nat × Nat) : (pCount m s st).1 ≤ m := bnd_most false s st.1 st.2 m
theorem pText_le (m : Nat) (s : Bytes) (st : Nat × Nat) : (pText m s st).1.length ≤ m := by
  have := bnd_most true s st.1 st.2 m
  unfold pText rtext
  split
  · exact Nat.zero_le _
  · simp only [List.length_take]; omega
theorem pText_place (m : Nat) (s : Bytes) (st : Nat × Nat) (h : st.1 ≤ s.length) : (pText m s st).2.1 ≤ s.length := by
  have h1 := bnd_place true s st.1 st.2 m h
  have h2 := bnd_room s st.1 st.2 m
  unfold pText rtext
  split
  · exact h1
  · simp only; omega
theorem rsNum {s : Bytes} {st : Nat × Nat} {b : Nat} {w : World} (h : RS w b s st) (hs : s.length ≤ 1152921504606846976) :
    Calls Tryz.prog 113 #[.pointer (some ⟨b, 0, none⟩)] w fun x w' => x = .returned (.int .u64 ((pNum s st).1 : Int)) ∧ RS w' b s (pNum s st).2 ∧ Only b w w' :=
  (rnum_only s st.1 st.2 b w h.1 h.2 hs _ rfl).mono fun _ _ ⟨e, hr, hb⟩ => ⟨e, ⟨hr, bnd_place _ _ _ _ _ h.2⟩, hb⟩
theorem rsCount (m : Nat) (hm : m ≤ maxLen) {s : Bytes} {st : Nat × Nat} {b : Nat} {w : World} (h : RS w b s st) (hs : s.length ≤ 1152921504606846976) :
    Calls Tryz.prog 87 #[.pointer (some ⟨b, 0, none⟩), .int .i64 (m : Int)] w fun x w' => x = .returned (.int .i64 ((pCount m s st).1 : Int)) ∧ RS w' b s (pCount m s st).2 ∧ Only b w w' :=
  (count_only s st.1 st.2 m b w h.1 h.2 hs hm _ rfl).mono fun _ _ ⟨e, hr, hb⟩ => ⟨e, ⟨hr, bnd_place _ _ _ _ _ h.2⟩, hb⟩
theorem rsText (m : Nat) (hm : m ≤ maxLen) {s : Bytes} {st : Nat × Nat} {b : Nat} {w : World} (h : RS w b s st) (hs : s.length ≤ 1152921504606846976) :
    Calls Tryz.prog 114 #[.pointer (some ⟨b, 0, none⟩), .int .i64 (m : Int)] w fun x w' => x = .returned (.string (str (pText m s st).1)) ∧ RS w' b s (pText m s st).2 ∧ Only b w w' :=
  (rtext_only s st.1 st.2 m b w h.1 h.2 hs hm _ rfl).mono fun _ _ ⟨e, hr, hb⟩ => ⟨e, ⟨hr, pText_place m s st h.2⟩, hb⟩
/-- what End tells -/
def pEnd (s : Bytes) (st : Nat × Nat) : Nat := if st.2 = 0 ∧ st.1 < s.length then 9 else st.2
theorem rsEnd {s : Bytes} {st : Nat × Nat} {b : Nat} {w : World} (h : RS w b s st) :
    Calls Tryz.prog 88 #[.pointer (some ⟨b, 0, none⟩)] w fun x w' => x = .returned (.int .i64 (pEnd s st : Int)) ∧ Only b w w' :=
  (end_only s st.1 st.2 b w h.1).mono fun _ _ ⟨e, _, hb⟩ => ⟨e, hb⟩
end Go.Proofs.YtmehcogaopackaaGreat
/- PLAIN: requests: what may be, their bytes; lists that are read one after another; a slice's cells. -/
namespace Go.Proofs.YtmehcogaopackaaGreat
open Go.RowKit

/-- a request -/
structure Rq where
  op : Int
  session : Nat
  number : Nat
  node : Int
  life : Nat
  tried : Nat
  box : Bytes
  dest : Bytes
  validity : Nat
  uids : List (Nat × Nat)
  flags : List Bytes
  how : Int
  has : Bool
  since : Nat
  hash : Bytes
  size : Nat
  sweeps : Nat
def Rq.zero : Rq := ⟨0, 0, 0, 0, 0, 0, [], [], 0, [], [], 0, false, 0, [], 0, 0⟩
/-- a request's cells -/
def Rq.cells (x : Rq) (vu vf : Value) : Array Value := #[.int .i64 x.op, .int .u64 x.session, .int .u64 x.number, .int .i64 x.node, .int .u64 x.life, .int .u64 x.tried, .string (str x.box), .string (str x.dest), .int .u64 x.validity, vu, vf, .int .i64 x.how, .bool x.has, .int .u64 x.since, .string (str x.hash), .int .u64 x.size, .int .u64 x.sweeps]
def rgVals (l : List (Nat × Nat)) : List Value := l.flatMap fun r => [.int .u64 r.1, .int .u64 r.2]
def strVals (l : List Bytes) : List Value := l.map fun b => .string (str b)
theorem rgVals_len (l : List (Nat × Nat)) : (rgVals l).length = 2 * l.length := by
  induction l with
  | nil => rfl
  | cons a l ih => simp only [rgVals, List.flatMap_cons, List.length_append, List.length_cons, List.length_nil] at *; omega
theorem strVals_len (l : List Bytes) : (strVals l).length = l.length := by simp [strVals]

/-- the slice value v of n elements has the cells xs; none of the blocks D holds them -/
def Cells (D : List Nat) (w : World) (v : Value) (n : Nat) (xs : List Value) : Prop :=
  ∃ (a : Option Addr) (cap : Nat), v = .slice a n cap ∧ n ≤ cap ∧ (0 < xs.length → ∃ b off, a = some ⟨b, off, none⟩ ∧ b ∉ D ∧ ∀ j (h : j < xs.length), w.cell? ⟨b, off + j, none⟩ = some xs[j])
theorem Cells.kept {D : List Nat} {w w' : World} {v : Value} {n : Nat} {xs : List Value} (h : Cells D w v n xs) (hb : ∀ j, j < w.heap.size → j ∉ D → w'.heap[j]? = w.heap[j]?) : Cells D w' v n xs := by
  obtain ⟨a, cap, hv, hc, hx⟩ := h
  refine ⟨a, cap, hv, hc, fun hp => ?_⟩
  obtain ⟨b, off, ha, hd, hcell⟩ := hx hp
  refine ⟨b, off, ha, hd, fun j hj => ?_⟩
  have h1 := hcell j hj
  rw [← h1]
  exact World.cell?_of_block (hb b (World.block_lt_of_cell? _ _ h1) hd)
theorem Cells.below {D : List Nat} {w w' : World} {v : Value} {n : Nat} {xs : List Value} (h : Cells D w v n xs) (hb : Below w.heap.size w w') : Cells D w' v n xs := h.kept fun j hj _ => hb.block j hj
theorem Cells.sub {D E : List Nat} {w : World} {v : Value} {n : Nat} {xs : List Value} (h : Cells D w v n xs) (hs : ∀ j, j ∈ E → j ∈ D) : Cells E w v n xs := by
  obtain ⟨a, cap, hv, hc, hx⟩ := h
  refine ⟨a, cap, hv, hc, fun hp => ?_⟩
  obtain ⟨b, off, ha, hd, hcell⟩ := hx hp
  exact ⟨b, off, ha, fun hm => hd (hs b hm), hcell⟩
theorem Cells.nil (D : List Nat) (w : World) : Cells D w (.slice none 0 0) 0 [] := ⟨none, 0, rfl, Nat.le_refl _, fun h => by simp at h⟩

/-- an entry -/
structure En where
  term : Nat
  kind : Int
  data : Bytes
/-- a message -/
structure Ms where
  kind : Int
  src : Int
  dest : Int
  term : Nat
  index : Nat
  logTerm : Nat
  commit : Nat
  ok : Bool
  entries : List En
  conf : List Int
  offset : Int
  size : Int
  data : Bytes
def Ms.zero : Ms := ⟨0, 0, 0, 0, 0, 0, 0, false, [], [], 0, 0, []⟩
/-- a message's cells -/
def Ms.cells (x : Ms) (ve vc : Value) : Array Value := #[.int .i64 x.kind, .int .i64 x.src, .int .i64 x.dest, .int .u64 x.term, .int .u64 x.index, .int .u64 x.logTerm, .int .u64 x.commit, .bool x.ok, ve, vc, .int .i64 x.offset, .int .i64 x.size, .string (str x.data)]
def enVals (l : List En) : List Value := l.flatMap fun e => [.int .u64 e.term, .int .i64 e.kind, .string (str e.data)]
def intVals (l : List Int) : List Value := l.map fun n => .int .i64 n
theorem enVals_len (l : List En) : (enVals l).length = 3 * l.length := by
  induction l with
  | nil => rfl
  | cons a l ih => simp only [enVals, List.flatMap_cons, List.length_append, List.length_cons, List.length_nil] at *; omega
theorem intVals_len (l : List Int) : (intVals l).length = l.length := by simp [intVals]
theorem rgVals_at : ∀ (l : List (Nat × Nat)) (k : Nat) (h : k < l.length), (rgVals l)[k * 2]? = some (.int .u64 l[k].1) ∧ (rgVals l)[k * 2 + 1]? = some (.int .u64 l[k].2)
  | a :: l, 0, _ => ⟨rfl, rfl⟩
  | a :: l, k + 1, h => by
    have := rgVals_at l k (by simpa using h)
    rw [show (k + 1) * 2 = k * 2 + 1 + 1 by omega]
    exact this
theorem enVals_at : ∀ (l : List En) (k : Nat) (h : k < l.length), (enVals l)[k * 3]? = some (.int .u64 l[k].term) ∧ (enVals l)[k * 3 + 1]? = some (.int .i64 l[k].kind) ∧ (enVals l)[k * 3 + 2]? = some (.string (str l[k].data))
  | a :: l, 0, _ => ⟨rfl, rfl, rfl⟩
  | a :: l, k + 1, h => by
    have := enVals_at l k (by simpa using h)
    rw [show (k + 1) * 3 = k * 3 + 1 + 1 + 1 by omega]
    exact this
theorem strVals_at (l : List Bytes) (k : Nat) (h : k < l.length) : (strVals l)[k]? = some (.string (str l[k])) := by simp [strVals, h]
theorem intVals_at (l : List Int) (k : Nat) (h : k < l.length) : (intVals l)[k]? = some (.int .i64 l[k]) := by simp [intVals, h]
theorem Cells.at {D : List Nat} {w : World} {a : Option Addr} {n cap m : Nat} {xs : List Value} (h : Cells D w (.slice a m cap) n xs) : m = n ∧ n ≤ cap ∧ (0 < xs.length → ∃ b off, a = some ⟨b, off, none⟩ ∧ ∀ (w' : World), Below w.heap.size w w' → ∀ j v, xs[j]? = some v → w'.cell? ⟨b, off + j, none⟩ = some v) := by
  obtain ⟨a', cap', e, hc, hx⟩ := h
  cases e
  refine ⟨rfl, hc, fun hp => ?_⟩
  obtain ⟨b, off, ha, _, hcell⟩ := hx hp
  refine ⟨b, off, ha, fun w' hb j v hv => ?_⟩
  obtain ⟨hj, e⟩ := List.getElem?_eq_some_iff.1 hv
  have h1 := hcell j hj
  rw [e] at h1
  exact (hb.cell (p := ⟨b, off + j, none⟩) (World.block_lt_of_cell? _ _ h1)).trans h1
theorem Cells.form {D : List Nat} {w : World} {v : Value} {n : Nat} {xs : List Value} (h : Cells D w v n xs) : ∃ a cap, v = .slice a n cap := by
  obtain ⟨a, cap, e, _⟩ := h
  exact ⟨a, cap, e⟩

/-- one step behind the other -/
def many {σ α : Type} (one : σ → α × σ) : Nat → σ → List α × σ
  | 0, st => ([], st)
  | n + 1, st => ((many one n st).1 ++ [(one (many one n st).2).1], (one (many one n st).2).2)
theorem many_len {σ α : Type} (one : σ → α × σ) : ∀ n st, (many one n st).1.length = n
  | 0, _ => rfl
  | n + 1, st => by simp [many, many_len one n st]
def rdRange (s : Bytes) (st : Nat × Nat) : (Nat × Nat) × (Nat × Nat) := (((pNum s st).1, (pNum s (pNum s st).2).1), (pNum s (pNum s st).2).2)

/-- what a call may turn that writes blocks b and k alone -/
def Kept2 (b k : Nat) (w w' : World) : Prop :=
  w'.os = w.os ∧ w'.tape = w.tape ∧ w'.output = w.output ∧ w.heap.size ≤ w'.heap.size ∧ ∀ j, j < w.heap.size → j ≠ b → j ≠ k → w'.heap[j]? = w.heap[j]?
theorem Kept2.refl (b k : Nat) (w : World) : Kept2 b k w w := ⟨rfl, rfl, rfl, Nat.le_refl _, fun _ _ _ _ => rfl⟩
theorem Kept2.trans {b k : Nat} {w w1 w2 : World} (h : Kept2 b k w w1) (g : Kept2 b k w1 w2) : Kept2 b k w w2 :=
  ⟨g.1.trans h.1, g.2.1.trans h.2.1, g.2.2.1.trans h.2.2.1, Nat.le_trans h.2.2.2.1 g.2.2.2.1, fun j hj h1 h2 => (g.2.2.2.2 j (Nat.lt_of_lt_of_le hj h.2.2.2.1) h1 h2).trans (h.2.2.2.2 j hj h1 h2)⟩
theorem Kept2.only {b k : Nat} {w w' : World} (h : Only b w w') : Kept2 b k w w' := ⟨h.os, h.tape, h.output, h.size, fun j hj h1 _ => h.block j hj (fun e => h1 (by cases e; rfl))⟩
theorem Kept2.below {b k : Nat} {w w' : World} (h : Below w.heap.size w w') : Kept2 b k w w' := ⟨h.os, h.tape, h.output, h.size, fun j hj _ _ => h.block j hj⟩
theorem Kept2.set {b k : Nat} {w w' : World} (h : Kept2 b k w w') (o : Nat) (v : Value) : Kept2 b k w (w'.setCell ⟨k, o, none⟩ v) :=
  h.trans ⟨rfl, rfl, rfl, by simp [World.setCell], fun j _ _ hk => Below.heap_setCell _ _ _ _ hk⟩
theorem Kept2.row {b k : Nat} {w w' : World} (h : Kept2 b k w w') (cs : Array Value) : Kept2 b k w (w'.setRow k cs) :=
  h.trans ⟨rfl, rfl, rfl, by simp [World.setRow], fun j _ _ hk => by simp [World.setRow, Array.getElem?_modify, Ne.symm hk]⟩
theorem Kept2.drew {b k : Nat} {w w' : World} (h : Kept2 b k w w') : Kept2 b k w w'.drew := h
theorem Cells.kept2 {b k : Nat} {w w' : World} {v : Value} {n : Nat} {xs : List Value} (h : Cells [b, k] w v n xs) (hb : Kept2 b k w w') : Cells [b, k] w' v n xs :=
  h.kept fun j hj hd => hb.2.2.2.2 j hj (fun e => hd (by simp [e])) (fun e => hd (by simp [e]))
/-- a store into a block whose cells are known -/
theorem heap_set {w : World} {k : Nat} {cs : Array Value} {t : TypeId} (h : w.heap[k]? = some (.cells cs t)) (o : Nat) (v : Value) : (w.setCell ⟨k, o, none⟩ v).heap[k]? = some (.cells (cs.setIfInBounds o v) t) := by
  simp [World.setCell, Array.getElem?_modify, h]
theorem cell_in {w : World} {k : Nat} {cs : Array Value} {t : TypeId} (h : w.heap[k]? = some (.cells cs t)) (o : Nat) (v : Value) (hv : cs[o]? = some v) : w.cell? ⟨k, o, none⟩ = some v := by
  simp [World.cell?, h, hv]
theorem free_in {w : World} {k : Nat} {cs : Array Value} {t : TypeId} (h : w.heap[k]? = some (.cells cs t)) (o : Nat) : w.frozen? ⟨k, o, none⟩ = false := by
  simp [World.frozen?, h]

theorem rsNumE {s : Bytes} {st st' : Nat × Nat} {n b : Nat} {w : World} (E : pNum s st = (n, st')) (h : RS w b s st) (hs : s.length ≤ 1152921504606846976) :
    Calls Tryz.prog 113 #[.pointer (some ⟨b, 0, none⟩)] w fun x w' => x = .returned (.int .u64 (n : Int)) ∧ RS w' b s st' ∧ Only b w w' := by
  have := rsNum h hs
  rw [E] at this
  exact this
theorem rsCountE {m : Nat} (hm : m ≤ maxLen) {s : Bytes} {st st' : Nat × Nat} {n b : Nat} {w : World} (E : pCount m s st = (n, st')) (h : RS w b s st) (hs : s.length ≤ 1152921504606846976) :
    Calls Tryz.prog 87 #[.pointer (some ⟨b, 0, none⟩), .int .i64 (m : Int)] w fun x w' => x = .returned (.int .i64 (n : Int)) ∧ RS w' b s st' ∧ Only b w w' := by
  have := rsCount m hm h hs
  rw [E] at this
  exact this
theorem rsTextE {m : Nat} (hm : m ≤ maxLen) {s t : Bytes} {st st' : Nat × Nat} {b : Nat} {w : World} (E : pText m s st = (t, st')) (h : RS w b s st) (hs : s.length ≤ 1152921504606846976) :
    Calls Tryz.prog 114 #[.pointer (some ⟨b, 0, none⟩), .int .i64 (m : Int)] w fun x w' => x = .returned (.string (str t)) ∧ RS w' b s st' ∧ Only b w w' := by
  have := rsText m hm h hs
  rw [E] at this
  exact this
end Go.Proofs.YtmehcogaopackaaGreat
