/- Pieces of a function's code. -/
import Derived.Test.YtllckpcggmfmkaaDoorMem
namespace Go.Proofs.YtllckpcggmfmkaaDoor
open Go.RowKit

def firstR : Code → Option Nat
  | .region k _ _ => some k
  | .seq a _ => firstR a
  | .block _ c => firstR c
  | .loop c => firstR c
  | .scope c => firstR c
  | _ => none
/-- the code that begins with region n -/
def pickR (n : Nat) : Code → Option Code
  | .region k o d => if k = n then some (.region k o d) else none
  | .seq a b => if firstR a = some n then some (.seq a b) else match pickR n a with
    | some c => some c
    | none => pickR n b
  | .block _ c => pickR n c
  | .loop c => pickR n c
  | .scope c => pickR n c
  | .cond _ a b => match pickR n a with
    | some c => some c
    | none => pickR n b
  | _ => none
/-- the first of a sequence -/
def headC : Code → Code
  | .seq a _ => a
  | c => c
/-- the code with others in the place of what begins with some regions -/
def putS (f : Nat → Option Code) : Code → Code
  | .region k o d => (f k).getD (.region k o d)
  | .seq a b => ((firstR a).bind f).getD (.seq (putS f a) (putS f b))
  | .block i c => .block i (putS f c)
  | .loop c => .loop (putS f c)
  | .scope c => .scope (putS f c)
  | .cond o a b => .cond o (putS f a) (putS f b)
  | c => c
/-- region n alone -/
def findR (n : Nat) : Code → Option Code
  | .region k o d => if k = n then some (.region k o d) else none
  | .seq a b => match findR n a with
    | some c => some c
    | none => findR n b
  | .block _ c => findR n c
  | .loop c => findR n c
  | .scope c => findR n c
  | .cond _ a b => match findR n a with
    | some c => some c
    | none => findR n b
  | _ => none
/-- the code with others in the place of some regions alone -/
def putG (f : Nat → Option Code) : Code → Code
  | .region k o d => (f k).getD (.region k o d)
  | .seq a b => .seq (putG f a) (putG f b)
  | .block i c => .block i (putG f c)
  | .loop c => .loop (putG f c)
  | .scope c => .scope (putG f c)
  | .cond o a b => .cond o (putG f a) (putG f b)
  | c => c
end Go.Proofs.YtllckpcggmfmkaaDoor
