/- clock.nearest, First, Add; record.End (printed by gen_end.py). -/
import Derived.Test.YtabibfabieghpaaGreatDoorPkz0
import Derived.Test.YtabibfabieghpaaGreatDoorPkz7
namespace Go.Proofs.YtabibfabieghpaaGreatDoor
open Go.RowKit
def near (n : Int) : Int := min (max n 0) 1099511627776
def firstOf (l : List Int) : Int := l.foldl (fun o t => min o (near t)) 1099511627776
abbrev IST : TypeId := 169
abbrev I64 : TypeId := 3
def endV (st cr us ii ab en : Int) : Int := if st = 1 then firstOf [near (near cr + firstOf [ab]), near (near us + firstOf [ii])] else firstOf [en]
section
variable {E : World} {L : List Hp}
end
end Go.Proofs.YtabibfabieghpaaGreatDoor
