/- Geometry: more functions. -/
import Derived.Test.YtcnebanpnnblbaaDoorG1
namespace Go.Proofs.YtcnebanpnnblbaaDoor
open Go.K
def gAtOk (w h i : Int) : Bool := gMay w h && btw i 0 (w * h - 1)
def gAtX (w h i : Int) : Int := if gAtOk w h i then i % w else 0
def gAtY (w h i : Int) : Int := if gAtOk w h i then i / w else 0
def gAtE (w h i : Int) : Int := if gAtOk w h i then 0 else 10
def wayX (i : Int) : Int := if i = 1 then 1 else if i = 3 then -1 else 0
def wayY (i : Int) : Int := if i = 0 then -1 else if i = 2 then 1 else 0
def stOk (w h x y i : Int) : Bool := gIn w h x y && gIn w h (x + wayX i) (y + wayY i)
def stE (w h x y i : Int) : Int := if btw i 0 3 then (if stOk w h x y i then 0 else 10) else 1
def stX (w h x y i : Int) : Int := if btw i 0 3 && stOk w h x y i then x + wayX i else 0
def stY (w h x y i : Int) : Int := if btw i 0 3 && stOk w h x y i then y + wayY i else 0
end Go.Proofs.YtcnebanpnnblbaaDoor
