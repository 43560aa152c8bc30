/- Pieces of a function's code. -/
import Derived.Test.YtbdganopnccicaaDoorMem
namespace Go.Proofs.YtbdganopnccicaaDoor
open Go.RowKit

def firstR : Code → Option Nat
  | .region k _ _ => some k
  | .seq a _ => firstR a
  | .block _ c => firstR c
  | .loop c => firstR c
  | .scope c => firstR c
  | _ => none
/-- the code that begins with region n -/
def pickR (n : Nat) : Code → Option Code
  | .region k o d => if k = n then some (.region k o d) else none
  | .seq a b => if firstR a = some n then some (.seq a b) else match pickR n a with
    | some c => some c
    | none => pickR n b
  | .block _ c => pickR n c
  | .loop c => pickR n c
  | .scope c => pickR n c
  | .cond _ a b => match pickR n a with
    | some c => some c
    | none => pickR n b
  | _ => none
/-- the first of a sequence -/
def headC : Code → Code
  | .seq a _ => a
  | c => c
end Go.Proofs.YtbdganopnccicaaDoor
