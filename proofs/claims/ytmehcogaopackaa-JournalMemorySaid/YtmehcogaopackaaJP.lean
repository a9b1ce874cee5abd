/-
  PLAIN: a disk that has at most the file 'log', as a model: what each call does.
-/
import Derived.Test.YtmehcogaopackaaCrc
namespace Go.Proofs.Ytmehcogaopackaa
open Go.RowKit
/-- a call that is pending: a Put, or an Add -/
structure Pd where
  put : Bool
  s : Bytes
def Pd.steps (c : Pd) : Nat := if c.put then 1 else c.s.length
structure Ds where
  cap : Nat
  seen : Option Bytes
  lasts : Option Bytes
  pend : List Pd
  fused : Bool
  left : Int
def lenO (o : Option Bytes) : Nat := (o.getD []).length
def Ds.off (d : Ds) : Bool := d.fused && decide (d.left ≤ 0)
def Ds.used (d : Ds) : Nat := lenO d.seen
/-- may a call be done that makes so many bytes more: the error -/
def Ds.may (d : Ds) (more : Int) : Nat := if d.off then 8 else if (d.cap : Int) < (d.used : Int) + more then 7 else 0
def Ds.spend (d : Ds) : Ds := { d with left := if d.fused then d.left - 1 else d.left }
def Ds.add (d : Ds) (s : Bytes) : Ds × Nat :=
  if d.may s.length ≠ 0 then (d, d.may s.length) else if s = [] then (d, 0) else
  (Ds.spend { d with seen := some (d.seen.getD [] ++ s), pend := d.pend ++ [⟨false, s⟩] }, 0)
def Ds.puts (d : Ds) (s : Bytes) : Ds × Nat :=
  if d.may ((s.length : Int) - lenO d.seen) ≠ 0 then (d, d.may ((s.length : Int) - lenO d.seen)) else
  (Ds.spend { d with seen := some s, pend := d.pend ++ [⟨true, s⟩] }, 0)
def Ds.sync (d : Ds) : Ds × Nat := if d.may 0 ≠ 0 then (d, d.may 0) else (Ds.spend { d with lasts := d.seen, pend := [] }, 0)
def Ds.read (d : Ds) : Bytes × Nat := if d.off then ([], 8) else match d.seen with | none => ([], 6) | some b => (b, 0)
def Ds.fuse (d : Ds) (n : Int) : Ds := { d with fused := decide (0 ≤ n), left := n }
def Ds.count (d : Ds) : Nat := (d.pend.map Pd.steps).sum
def Ds.new (cap : Nat) : Ds := ⟨cap, none, none, [], false, 0⟩
/-- what a call of the disk and a Sync behind it come to -/
def Ds.sync' (p : Ds × Nat) : Ds × Nat := if p.2 ≠ 0 then p else p.1.sync
/-- a disk whose numbers are as they may be -/
def Ds.ok (d : Ds) : Prop := d.cap ≤ 1048576 ∧ d.used ≤ d.cap ∧ lenO d.lasts ≤ d.cap ∧ -9223372036854775808 ≤ d.left ∧ d.left ≤ 9223372036854775807
end Go.Proofs.Ytmehcogaopackaa
