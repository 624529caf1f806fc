/- Wire: frames, cut, split. -/
import Derived.Test.YtnaclkdjchnbpaaDoorW2
namespace Go.Proofs.YtnaclkdjchnbpaaDoor
open Go.K

def hdr (m : Nat) : List Nat := bes m 4 4
/-- What the first frame of bytes is: 0: whole; 12: too long; 17: not all there. -/
def cutE (xs : List Nat) : Int := if xs.length < 4 then 17 else if 131072 < num (xs.take 4) then 12 else if xs.length - 4 < num (xs.take 4) then 17 else 0
end Go.Proofs.YtnaclkdjchnbpaaDoor
