/- Part of the proof of SchemeAccepted: layer. -/
import Derived.Lib.TrailingZeros
import Derived.Test.YtpgdkkomegalnaaGreatDoorAL17
set_option linter.all false
namespace Go.fH
open Go
def mA(a:Int):Option Int:=if 0<=a/\a<4294967296 then some (Lib.ctz 32 a.toNat:Int)else none
end Go.fH
