/- Plain functions for messages' bytes: what is written; no program in it. -/
import Derived.Test.YtjhcbggpbfejgaaMk
import Derived.Test.YtjhcbggpbfejgaaCp
namespace Go.Proofs.Ytjhcbggpbfejgaa.Mq
open Go.RowKit Go.Proofs.zjt.zjq
open Go.Proofs.Ytjhcbggpbfejgaa.Cp
open Go.Proofs.Ytjhcbggpbfejgaa.Mk
/-- An entry, as the codec's plain functions have it. -/
def logOf (x : S38) : Log := ⟨x.f0, x.f1, ⟨x.f2.f0, x.f2.f1, x.f2.f2, x.f2.f3, x.f2.f4, x.f2.f5, x.f2.f6, x.f2.f7, x.f2.f8, x.f2.f9, x.f2.f10⟩, x.f3⟩
def ofLog (l : Log) : S38 := ⟨l.term, l.kind, ⟨l.cmd.op, l.cmd.book, l.cmd.name, l.cmd.data, l.cmd.mat, l.cmd.non, l.cmd.token, l.cmd.names, l.cmd.at_, l.cmd.session, l.cmd.seq⟩, l.nodes⟩
/-- A message. -/
structure Rpc where
  kind : Int
  src : Int
  dst : Int
  term : Int
  at_ : Int
  logTerm : Int
  ok : Bool
  commit : Int
  read : Int
  logs : List S38
  snapAt : Int
  snapTerm : Int
  nodes : List Int
  data : ByteArray
def logBytes (x : S38) : List Int := (putLog (logOf x)).getD []
/-- An entry in a message: how many bytes, and these. -/
def logItem (x : S38) : List Int := be8 ((logBytes x).length : Int) ++ logBytes x
def logGood (x : S38) : Bool := (putLog (logOf x)).isSome
def okByte (b : Bool) : Int := if b then 1 else 0
/-- A message's bytes. -/
def encRpc (m : Rpc) : List Int := [m.kind] ++ nums8 [m.src, m.dst, m.term, m.at_, m.logTerm] ++ [okByte m.ok] ++ nums8 [m.commit, m.read, (m.logs.length : Int)] ++ m.logs.flatMap logItem ++ nums8 [m.snapAt, m.snapTerm, (m.nodes.length : Int)] ++ nums8 m.nodes ++ txt m.data
def putRpc (m : Rpc) : Option (List Int) := if 1 ≤ m.kind ∧ m.kind ≤ 6 ∧ m.logs.all logGood = true then some (encRpc m) else none
/-- Small enough for a slice. -/
def fitsRpc (m : Rpc) : Prop := (encRpc m).length < 140737488355328 ∧ ∀ x ∈ m.logs, (enc (logOf x).cmd).length + (nums8 x.f3).length + 17 < 140737488355328
theorem bs_putLog {l : Log} {b : List Int} (h : putLog l = some b) : Bs b := by
  have hk : ∀ k : Int, 0 ≤ k → k < 256 → Bs [k] := fun k h0 h1 x hx => by simp at hx; subst hx; exact ⟨h0, h1⟩
  unfold Cp.putLog at h
  split at h
  · split at h
    · injection h with h; subst h; exact (Bs.be8 _).append (hk 0 (by decide) (by decide))
    · cases h
  · split at h
    · split at h
      · injection h with h; subst h; exact ((Bs.be8 _).append (hk 1 (by decide) (by decide))).append (Bs.enc _)
      · cases h
    · split at h
      · split at h
        · injection h with h; subst h; exact ((Bs.be8 _).append (hk 2 (by decide) (by decide))).append ((Bs.be8 _).append (Bs.nums8 _))
        · cases h
      · cases h
end Go.Proofs.Ytjhcbggpbfejgaa.Mq
